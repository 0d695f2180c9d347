/- Contract of replay.Run over awake's two events, in the array engine. -/
import Derived.Test.YtndfpmboanohcaaGreatDoorMth
namespace Go.Proofs.YtndfpmboanohcaaGreatDoor
set_option maxRecDepth 100000
open Go.RowKit Go.Maps SkipPure

/-- awake's two events, as they lie. -/
def evs2 : Array Value := evCells 0 2 0 0 0 (.slice none 0 0) (.slice none 0 0) ++ evCells 1 0 2 1 2 (.slice none 0 0) (.slice none 0 0)
theorem info_line : (Tryz.prog.info? 48).map (fun i => (i.zero, i.size, i.bytes)) = some (some (.agg #[.int .i64 0, .slice none 0 0]), 2, 32) := by kernel_rfl
theorem elem_line : ∃ i, Elem Tryz.prog 48 i (.agg #[.int .i64 0, .slice none 0 0]) 2 32 := info_parts info_line
theorem ownsRow_chg {S : Nat → Prop} {w w' : World} {base : Nat} {e : TypeId} {size n : Nat} {v : Value} {xs : List Value} (h : w.ownsRow base e size v n xs) (hc : Chg S w w') (hs : ∀ k, v.ownBlock = some k → ¬ S k) : w'.ownsRow base e size v n xs := by
  obtain ⟨h1, h2⟩ := h
  refine ⟨h1, ?_⟩
  rcases h2 with h2 | ⟨g, cap, cur, rfl, h3, h4, h5⟩
  · exact .inl h2
  · exact .inr ⟨g, cap, cur, rfl, h3, (hc.block g (Array.getElem?_eq_some_iff.1 h4).1 (hs g rfl)).trans h4, h5⟩
theorem ownsRow_type {w : World} {base : Nat} {e : TypeId} {size n : Nat} {v : Value} {xs : List Value} (h : w.ownsRow base e size v n xs) {k : Nat} (hk : v.ownBlock = some k) : ∃ cur, w.heap[k]? = some (.cells cur e (0, 0)) := by
  rcases h.2 with ⟨rfl, _⟩ | ⟨g, cap, cur, rfl, h3, h4, h5⟩
  · cases hk
  · cases hk
    exact ⟨cur, h4⟩
theorem ArrAt.notOwn {w : World} {J : AIds} {p : Nat} {α : Arr} (h : ArrAt w J p α) {b : Nat} {cur : Array Value} {e : TypeId} (hb : w.heap[b]? = some (.cells cur e (0, 0))) (h1 : e ≠ 110) (h2 : e ≠ 150) : ¬ AOwn J b := by
  intro hi
  rcases hi with rfl | rfl
  · have := h.blk
    unfold Blk at this
    rw [this] at hb
    cases hb
    exact h1 rfl
  · obtain ⟨_, _, cs, hg, _⟩ := h.row
    rw [hg] at hb
    cases hb
    exact h2 rfl
theorem arr1 (b s : Int) : (addA (passF arr0 b s) 2 1).n = 2 ∧ ((addA (passF arr0 b s) 2 1).X 0).r = 1 ∧ ((addA (passF arr0 b s) 2 1).X 0).p = -1 ∧ ((addA (passF arr0 b s) 2 1).X 1).r = 2 ∧ ((addA (passF arr0 b s) 2 1).X 1).p = 0 := by
  have e : fnd (passF arr0 b s).X 1 1 = 0 := by simp [fnd, passF_r, arr0]
  have en : (passF arr0 b s).n = 1 := rfl
  refine ⟨rfl, ?_, ?_, ?_, ?_⟩
  · show (nset (passF arr0 b s).X 1 ⟨2, fnd (passF arr0 b s).X 1 1, 0, 0, 0⟩ 0).r = 1
    unfold nset; rw [if_neg (by omega), passF_r]; rfl
  · show (nset (passF arr0 b s).X 1 ⟨2, fnd (passF arr0 b s).X 1 1, 0, 0, 0⟩ 0).p = -1
    unfold nset; rw [if_neg (by omega), passF_p]; rfl
  · rfl
  · exact e
theorem sgB_parts : sgB.F = F2 ∧ sgB.f = 1 ∧ sgB.je = 0 ∧ sgB.fr = 1 ∧ sgB.jr = 1 ∧ sgB.n = 2 := by
  rw [sgB_eq, sgA_eq]
  exact ⟨rfl, rfl, rfl, rfl, rfl, rfl⟩
theorem errV0 : errV (tickE (st0 [5] 4 0) 2) = .nilIface := by
  have e : tickE (st0 [5] 4 0) 2 = 0 := by unfold tickE st0; simp
  rw [e]; rfl
section
variable {w : World} {ad : Option Addr} {c : Nat}
set_option maxHeartbeats 8000000 in
theorem run_array (hb : Ints .u64 w ad [5]) {ge ce : Nat} (he : Blk w ge evs2 68) :
    Calls Tryz.prog 14 #[.int .i64 1, cfgV ad 1 c 4 0, .slice (some ⟨ge, 0, none⟩) 2 ce] w fun e w' => ∃ v s1 s2, e = .returned (.tuple #[v, .nilIface]) ∧ w'.ownsRow w.heap.size 48 2 v 2 [.int .i64 0, s1, .int .i64 0, s2] ∧
      w'.ownsRow w.heap.size 5 1 s1 (canonF sgA [1] 1).length (canonF sgA [1] 1) ∧ w'.ownsRow w.heap.size 5 1 s2 (canonF sgB [1, 2] 2).length (canonF sgB [1, 2] 2) ∧ w.grownBy w' none := by
  have HB := Lib.hid hb
  have HEV := Lib.hid he
  have hgl := he.lt
  clear hb he
  unfold cfgV
  go_enter Tryz.func14, Tryz.ntmps14
  go_upto_region 1 with (fail)
  refine nmC1 ?_
  intro W b0 hz hg
  obtain ⟨q, hq_q⟩ : ∃ q, q = w.heap.size := ⟨_, rfl⟩
  rw [← hq_q] at b0 hz hgl ⊢
  have HQ_q := Lib.hid hq_q
  clear hq_q
  have HQ := Lib.hid b0
  have HG := Lib.hid hg
  clear b0 hg
  replace HB := Lib.hid (Ints.kept HB.out HG.out)
  replace HEV := Lib.hid (HEV.out.g HG.out)
  obtain ⟨c0, c1, c2⟩ := HQ.out.c3
  go_wp2_with fail
  refine (rof_array (bs := [5]) HB.out may1).mono ?_
  rintro e w1 ⟨I, J, rfl, hst, ha, hex, hg, hm1, hm2⟩
  have hwW := HG.out.size
  replace HEV := Lib.hid (HEV.out.g hg)
  replace HG := Lib.hid (g2 HG.out hg)
  have h1 : ∀ i, Mut I i → w.heap.size ≤ i := fun i hi => Nat.le_trans hwW (hm1 i hi)
  have h2 : ∀ i, AOwn J i → w.heap.size ≤ i := fun i hi => Nat.le_trans hwW (hm2 i hi)
  clear hg c0 c1 c2 HB HQ hwW hm1 hm2
  have HH := Lib.hid hst
  have HA := Lib.hid ha
  have HEX := Lib.hid hex
  have HM1 := Lib.hid h1
  have HM2 := Lib.hid h2
  clear hst ha hex h1 h2
  go_wp2_with fail
  have mf := fun w => me_feedA J.q w
  have mh := fun w => me_headA J.q w
  refine wp_loop_rounds 3 ?_
  rw [rounds_succ]
  go_upto_region 7 with (fail)
  go_wp2_with (first
    | refine wpList_load_blk (off := 0) HBE.out rfl _ rfl rfl _ Tryz.underlying68 rfl (evCells 0 2 0 0 0 (.slice none 0 0) (.slice none 0 0)) (by as_aux_lemma => kernel_rfl) rfl ?_
    | refine wpList_load_blk (off := 0) HEV.out rfl _ rfl rfl _ Tryz.underlying68 rfl (evCells 0 2 0 0 0 (.slice none 0 0) (.slice none 0 0)) (by as_aux_lemma => kernel_rfl) rfl ?_
    | (refine wpList_store_new rfl (evCells 0 2 0 0 0 (.slice none 0 0) (.slice none 0 0)) ⟨_, _, rfl, rfl, rfl⟩ (by as_aux_lemma => kernel_rfl) rfl (by simp [evCells, Value.oneCell']) ?_; intro w2 hbE hgE; have HBE := Lib.hid hbE; replace HH := Lib.hid (HH.out.g hgE); replace HA := Lib.hid (HA.out.kept0 hgE); replace HEV := Lib.hid (HEV.out.g hgE); replace HG := Lib.hid (g2 HG.out hgE); clear hbE hgE))
  refine (feed_tick HH.out HA.out (fun i hi => by rw [HEX.out]; exact hi) 2).mono ?_
  rintro e w3 ⟨rfl, hst, ha, hc⟩
  rw [errV0]
  have hgw := HG.out.size
  have hgg := (((Chg.of (S := Mut I) HG.out)).trans hc).non HM1.out
  replace HEV := Lib.hid (hc.blk HEV.out (fun h => by have := HM1.out ge h; have := HQ_q.out; omega))
  clear HH HA HG HBE hgw hc
  have HH := Lib.hid hst
  have HA := Lib.hid ha
  have HG := Lib.hid hgg
  clear hst ha hgg
  change Hid (StoreAt w3 _ sgA) at HH
  go_wp2_with fail
  refine (number_nil w3).mono ?_
  rintro e w4 ⟨rfl, hg⟩
  replace HEV := Lib.hid (HEV.out.g hg)
  replace HH := Lib.hid (HH.out.g hg)
  replace HA := Lib.hid (HA.out.kept0 hg)
  replace HG := Lib.hid (g2 HG.out hg)
  clear hg
  go_wp2_with fail
  refine (head_calls HH.out wfA HA.out (fun i hi => by show I.ex i; rw [HEX.out]; exact hi) (fun i hi => by show -1 ≤ (-1 : Int) ∧ (-1 : Int) < _; omega) (fun i hi => by show inU 1; unfold inU; omega) (Nat.le_refl 1) risA (by simp) (sortUpTo2.less (by rw [sgA_eq]; show 1 ≤ 2; omega))).mono ?_
  rintro e w5 ⟨rfl, ha, hc⟩
  have hh1 : headF (MayLead sgA.F sgA.f [1] (srcG sgA) sgA.je sgA.fr (eOf sgA.slot sgA.S)) (passF arr0 (boostF sgA.bs sgA.S sgA.B) sgA.boosted).X arr0.n sgA.jr = 1 := by
    rw [show sgA.jr = 1 from by rw [sgA_eq]; rfl]
    exact head_one (by rw [passF_r]; rfl)
  rw [hh1]
  have hgw := HG.out.size
  have hgg := (((Chg.of (S := AOwn J) HG.out)).trans hc).non HM2.out
  replace HEV := Lib.hid (hc.blk HEV.out (fun h => by have := HM2.out ge h; have := HQ_q.out; omega))
  have hst := HH.out.exch hc (fun i hi => by show I.ex i; rw [HEX.out]; exact hi)
  clear HH HA HG hh1 hc hgw
  have HH := Lib.hid hst
  have HA := Lib.hid ha
  have HG := Lib.hid hgg
  clear hst ha hgg
  obtain ⟨N1, hN1⟩ : ∃ N1, N1 = w5.heap.size := ⟨_, rfl⟩
  have hmx : ∀ i, Mut I i → i < N1 := fun i hi => by rw [hN1]; exact HH.out.lt hi
  have hox : ∀ i, AOwn J i → i < N1 := fun i hi => by
    rw [hN1]
    rcases hi with e | e <;> rw [e]
    · exact HA.out.blk.lt
    · exact HA.out.row.lt
  have HMX := Lib.hid hmx
  have HOX := Lib.hid hox
  clear hmx hox
  go_wp2_with fail
  refine (canon_calls HH.out wfA parA risA (sortUpTo2.less (by rw [sgA_eq]; show 1 ≤ 2; omega)) (hd := 1) (by unfold inU; omega)).mono ?_
  rintro e w6 ⟨s1, rfl, hs1, hg⟩
  rw [← hN1] at hs1
  have hw6 : N1 ≤ w6.heap.size := by rw [hN1]; exact hg.size
  have hwN : w.heap.size ≤ N1 := by rw [hN1]; exact HG.out.size
  have hpos1 : 0 < (canonF sgA [1] 1).length := by unfold canonF; simp [putF_len, headN]; omega
  obtain ⟨gs1, cs1, rfl, _, _⟩ := hs1.form hpos1
  obtain ⟨L1, hL1⟩ : ∃ L1, L1 = canonF sgA [1] 1 := ⟨_, rfl⟩
  rw [← hL1] at hs1 ⊢
  replace HEV := Lib.hid (HEV.out.g hg)
  replace HH := Lib.hid (HH.out.g hg)
  replace HA := Lib.hid (HA.out.kept0 hg)
  replace HG := Lib.hid (g2 HG.out hg)
  have HS1 := Lib.hid hs1
  have HL1 := Lib.hid hL1
  clear hs1 hL1
  clear hg hpos1 hN1
  obtain ⟨i0, hi0⟩ := elem_line
  have HI := Lib.hid hi0
  clear hi0
  go_wp2_with (at_builtin; refine wpList_append_lies _ rfl _ _ 40 rfl N1 48 i0 (.agg #[.int .i64 0, .slice none 0 0]) 2 32 Tryz.underlying40 HI.out.1 HI.out.2.1 HI.out.2.2.1 HI.out.2.2.2 rfl (by decide) (.slice none 0 0) 0 [] rfl (World.ownsRow_nil _ _ _ _) ⟨w6.heap.size, 0, none⟩ 1 1 [.int .i64 0, .slice (some ⟨gs1, 0, none⟩) L1.length cs1] rfl rfl (World.news_of_block (MapKept.heap_alloc _ _).1) (by simp [Value.oneCell']) (by decide) (by unfold maxLen; omega) (by omega) (by simp; omega) _ rfl ?_; intro gl cl w7 hl hgl7 hatl hltl; have HL := Lib.hid hl; have HG7 := Lib.hid hgl7; clear hl hgl7 hatl hltl)
  have hg7 : w6.grownBy w7 none := g2 (World.grownBy_alloc w6 _ none) HG7.out
  have hl := HL.out
  rw [Nat.zero_add, List.nil_append] at hl
  replace HEV := Lib.hid (HEV.out.g hg7)
  replace HH := Lib.hid (HH.out.g hg7)
  replace HA := Lib.hid (HA.out.kept0 hg7)
  replace HS1 := Lib.hid (HS1.out.kept hg7 (.inr (by simp [Value.ownBlock])))
  replace HG := Lib.hid (g2 HG.out hg7)
  clear HL HG7
  have HL := Lib.hid hl
  clear hl hg7
  rw [rounds_succ]
  go_wp2_with (first
    | refine wpList_load_blk (off := 0) HBE.out rfl _ rfl rfl _ Tryz.underlying68 rfl (evCells 1 0 2 1 2 (.slice none 0 0) (.slice none 0 0)) (by as_aux_lemma => kernel_rfl) rfl ?_
    | refine wpList_load_blk (off := 28) HEV.out rfl _ rfl rfl _ Tryz.underlying68 rfl (evCells 1 0 2 1 2 (.slice none 0 0) (.slice none 0 0)) (by as_aux_lemma => kernel_rfl) rfl ?_
    | (refine wpList_store_new rfl (evCells 1 0 2 1 2 (.slice none 0 0) (.slice none 0 0)) ⟨_, _, rfl, rfl, rfl⟩ (by as_aux_lemma => kernel_rfl) rfl (by simp [evCells, Value.oneCell']) ?_; intro w8 hbE hgE; have HBE := Lib.hid hbE; replace HH := Lib.hid (HH.out.g hgE); replace HA := Lib.hid (HA.out.kept0 hgE); replace HL := Lib.hid (HL.out.kept hgE (.inr (by simp [Value.ownBlock]))); replace HS1 := Lib.hid (HS1.out.kept hgE (.inr (by simp [Value.ownBlock]))); replace HG := Lib.hid (g2 HG.out hgE); clear hbE hgE))
  have hx : ({ I with ch := .slice none 0 0 } : Ids).ex = AOwn J := HEX.out
  refine (feed_add HH.out wfA HA.out hx (by show 1 ≤ 2000; omega) add1).mono ?_
  rintro e w9 ⟨ch, g9, c9, rfl, hst, ha, hc, hg9⟩
  have hm9 : ∀ i, AOwn { J with g := g9, c := c9 } i → w.heap.size ≤ i := fun i hi => by
    rcases hi with e | e
    · exact HM2.out i (.inl e)
    · rw [e]
      rcases hg9 with h | h
      · exact HM2.out g9 (.inr h)
      · exact Nat.le_trans HG.out.size h
  have HM9 := Lib.hid hm9
  clear hg9 hm9
  have hown : ∀ b, N1 ≤ b → ¬ (Mut I b ∨ AOwn J b) := fun b hb h => by
    rcases h with h | h
    · have := HMX.out b h; omega
    · have := HOX.out b h; omega
  have hgg := (((Chg.of (S := fun i => Mut I i ∨ AOwn J i) HG.out)).trans hc).non (fun i hi => by rcases hi with h | h; exact HM1.out i h; exact HM2.out i h)
  have hl9 := ownsRow_chg HL.out hc (fun k hk => hown k (HL.out.lt k hk).1)
  have hs9 := ownsRow_chg HS1.out hc (fun k hk => hown k (HS1.out.lt k hk).1)
  clear HH HA HG HL HS1 HBE HEV hx hown hc
  have HH := Lib.hid hst
  have HA := Lib.hid ha
  have HG := Lib.hid hgg
  have HL := Lib.hid hl9
  have HS1 := Lib.hid hs9
  clear hst ha hgg hl9 hs9
  change Hid (StoreAt w9 _ sgB) at HH
  go_wp2_with fail
  refine (number_nil w9).mono ?_
  rintro e w10 ⟨rfl, hg⟩
  replace HH := Lib.hid (HH.out.g hg)
  replace HA := Lib.hid (HA.out.kept0 hg)
  replace HL := Lib.hid (HL.out.kept hg (.inr (by simp [Value.ownBlock])))
  replace HS1 := Lib.hid (HS1.out.kept hg (.inr (by simp [Value.ownBlock])))
  replace HG := Lib.hid (g2 HG.out hg)
  clear hg
  go_wp2_with fail
  obtain ⟨α, hα⟩ : ∃ α, α = addA (passF arr0 (boostF sgA.bs sgA.S sgA.B) sgA.boosted) 2 1 := ⟨_, rfl⟩
  rw [← hα] at HA
  obtain ⟨x1, x2, x3, x4, x5⟩ := arr1 (boostF sgA.bs sgA.S sgA.B) sgA.boosted
  rw [← hα] at x1 x2 x3 x4 x5
  clear hα
  have hpo : ParOk α.X α.n := fun i hi => by
    rw [x1] at hi
    rcases (show i = 0 ∨ i = 1 from by omega) with e | e <;> rw [e]
    · rw [x3]; omega
    · rw [x5]; omega
  have hro : RootOk α.X α.n := fun i hi => by
    rw [x1] at hi
    rcases (show i = 0 ∨ i = 1 from by omega) with e | e <;> rw [e]
    · rw [x2]; unfold inU; omega
    · rw [x4]; unfold inU; omega
  obtain ⟨y1, y2, y3, y4, y5, y6⟩ := sgB_parts
  have hh2 : headF (MayLead sgB.F sgB.f [1, 2] (srcG sgB) sgB.je sgB.fr (eOf sgB.slot sgB.S)) (passF α (boostF sgB.bs sgB.S sgB.B) sgB.boosted).X α.n sgB.jr = 2 := by
    rw [x1, y5]
    exact head_two (by rw [passF_r]; exact x2) (by rw [passF_r]; exact x4) (by rw [passF_p]; exact x5) (by rw [y1, y2, y3, y4]; exact may2 _ _)
  have hsu : SortUpTo sgB.n := sortUpTo2.less (by omega)
  have hn1 : 1 ≤ α.n := by omega
  have HPO := Lib.hid hpo
  have HRO := Lib.hid hro
  have HH2 := Lib.hid hh2
  have HSU := Lib.hid hsu
  clear hpo hro hh2 hsu
  clear x1 x2 x3 x4 x5 y1 y2 y3 y4 y5 y6
  refine (head_calls HH.out wfB HA.out (fun i hi => hi) HPO.out HRO.out hn1 risB (by simp) HSU.out).mono ?_
  rintro e w11 ⟨rfl, ha, hc⟩
  rw [HH2.out]
  have hgw := HG.out.size
  have hl9 := ownsRow_chg HL.out hc (fun k hk => by
    obtain ⟨cur, hcur⟩ := ownsRow_type HL.out hk
    exact HA.out.notOwn hcur (by decide) (by decide))
  have hs9 := ownsRow_chg HS1.out hc (fun k hk => by
    obtain ⟨cur, hcur⟩ := ownsRow_type HS1.out hk
    exact HA.out.notOwn hcur (by decide) (by decide))
  have hst := HH.out.exch hc (fun i hi => hi)
  have hgg := (((Chg.of (S := AOwn { J with g := g9, c := c9 }) HG.out)).trans hc).non HM9.out
  clear HH HA HG HL HS1 hc hgw
  have HH := Lib.hid hst
  have HG := Lib.hid hgg
  have HL := Lib.hid hl9
  have HS1 := Lib.hid hs9
  clear hst hgg hl9 hs9
  go_wp2_with fail
  refine (canon_calls HH.out wfB parB risB HSU.out (hd := 2) (by unfold inU; omega)).mono ?_
  rintro e w12 ⟨s2, rfl, hs2, hg⟩
  have hpos2 : 0 < (canonF sgB [1, 2] 2).length := by unfold canonF; simp [putF_len, headN]; omega
  obtain ⟨gs2, cs2, rfl, _, _⟩ := hs2.form hpos2
  obtain ⟨L2, hL2⟩ : ∃ L2, L2 = canonF sgB [1, 2] 2 := ⟨_, rfl⟩
  rw [← hL2] at hs2 ⊢
  have hs2' := ownsRow_base hs2 HG.out.size
  replace HL := Lib.hid (HL.out.kept hg (.inr (by simp [Value.ownBlock])))
  replace HS1 := Lib.hid (HS1.out.kept hg (.inr (by simp [Value.ownBlock])))
  have hN12 : N1 ≤ w12.heap.size := by have := (HL.out.lt gl rfl); omega
  replace HG := Lib.hid (g2 HG.out hg)
  have HS2 := Lib.hid hs2'
  have HL2 := Lib.hid hL2
  clear hs2' hL2
  clear hg hpos2 hs2 HH
  go_wp2_with (at_builtin; refine wpList_append_lies _ rfl _ _ 40 rfl N1 48 i0 (.agg #[.int .i64 0, .slice none 0 0]) 2 32 Tryz.underlying40 HI.out.1 HI.out.2.1 HI.out.2.2.1 HI.out.2.2.2 rfl (by decide) (.slice (some ⟨gl, 0, none⟩) 1 cl) 1 [.int .i64 0, .slice (some ⟨gs1, 0, none⟩) L1.length cs1] rfl (HL.out.alloc _) ⟨w12.heap.size, 0, none⟩ 1 1 [.int .i64 0, .slice (some ⟨gs2, 0, none⟩) L2.length cs2] rfl rfl (World.news_of_block (MapKept.heap_alloc _ _).1) (by simp [Value.oneCell']) (by decide) (by unfold maxLen; omega) (by omega) (by simp; omega) _ rfl ?_; intro gl2 cl2 w13 hl hgl7 hatl hltl; have HL3 := Lib.hid hl; have HG13 := Lib.hid hgl7; clear hl hgl7 hatl hltl)
  rw [rounds_succ]
  go_wp2
  go_ret2
  have hne1 : gs1 ≠ gl := fun e => by
    obtain ⟨c1, h1⟩ := ownsRow_type HS1.out (k := gs1) rfl
    obtain ⟨c2, h2⟩ := ownsRow_type HL.out (k := gl) rfl
    rw [e, h2] at h1
    cases h1
  have hne2 : gs2 ≠ gl := fun e => by
    obtain ⟨c1, h1⟩ := ownsRow_type HS2.out (k := gs2) rfl
    obtain ⟨c2, h2⟩ := ownsRow_type HL.out (k := gl) rfl
    rw [e, h2] at h1
    cases h1
  have hg13 : World.grownBy _ w13 (some gl) := HG13.out
  have hal := World.grownBy_alloc w12 (Obj.cells #[.int .i64 0, .slice (some ⟨gs2, 0, none⟩) L2.length cs2] 48) none
  have hs1' := (HS1.out.kept hal (.inr (by simp [Value.ownBlock]))).kept hg13 (.inr (by simpa [Value.ownBlock] using hne1))
  have hs2'' := (HS2.out.kept hal (.inr (by simp [Value.ownBlock]))).kept hg13 (.inr (by simpa [Value.ownBlock] using hne2))
  have hgl1 := (HL.out.lt gl rfl).1
  refine ⟨_, _, _, rfl, ownsRow_base HL3.out hwN, ?_, ?_, gnew (g2 HG.out hal) hg13 (by omega)⟩
  · rw [← HL1.out]; exact ownsRow_base hs1' hwN
  · rw [← HL2.out]; exact hs2''
end
end Go.Proofs.YtndfpmboanohcaaGreatDoor
