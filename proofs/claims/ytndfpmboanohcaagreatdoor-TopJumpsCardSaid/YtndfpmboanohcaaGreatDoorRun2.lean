/- Contract of replay.Run over awake's two events, in the bucket engine. -/
import Derived.Test.YtndfpmboanohcaaGreatDoorRun
namespace Go.Proofs.YtndfpmboanohcaaGreatDoor
set_option maxRecDepth 100000
open Go.RowKit Go.Maps SkipPure
section
variable {w : World} {ad : Option Addr} {c : Nat}
theorem sgA_parts : sgA.F = F1 ∧ sgA.f = 1 ∧ sgA.jr = 1 := by
  rw [sgA_eq]
  exact ⟨rfl, rfl, rfl⟩
set_option maxHeartbeats 8000000 in
theorem run_bucket (hb : Ints .u64 w ad [5]) {ge ce : Nat} (he : Blk w ge evs2 68) :
    Calls Tryz.prog 14 #[.int .i64 3, cfgV ad 1 c 4 0, .slice (some ⟨ge, 0, none⟩) 2 ce] w fun e w' => ∃ v s1 s2, e = .returned (.tuple #[v, .nilIface]) ∧ w'.ownsRow w.heap.size 48 2 v 2 [.int .i64 0, s1, .int .i64 0, s2] ∧
      w'.ownsRow w.heap.size 5 1 s1 (canonF sgA [1] 1).length (canonF sgA [1] 1) ∧ w'.ownsRow w.heap.size 5 1 s2 (canonF sgB [1, 2] 2).length (canonF sgB [1, 2] 2) ∧ w.grownBy w' none := by
  have HB := Lib.hid hb
  have HEV := Lib.hid he
  have hgl := he.lt
  clear hb he
  unfold cfgV
  go_enter Tryz.func14, Tryz.ntmps14
  go_upto_region 1 with (fail)
  refine nmC1 ?_
  intro W b0 hz hg
  obtain ⟨q, hq_q⟩ : ∃ q, q = w.heap.size := ⟨_, rfl⟩
  rw [← hq_q] at b0 hz hgl ⊢
  have HQ_q := Lib.hid hq_q
  clear hq_q
  have HQ := Lib.hid b0
  have HG := Lib.hid hg
  clear b0 hg
  replace HB := Lib.hid (Ints.kept HB.out HG.out)
  replace HEV := Lib.hid (HEV.out.g HG.out)
  obtain ⟨c0, c1, c2⟩ := HQ.out.c3
  go_wp2_with fail
  refine (rof_bucket (bs := [5]) HB.out may1).mono ?_
  rintro e w1 ⟨I, J, rfl, hst, ha, hex, hg, hm1, hm2⟩
  have hwW := HG.out.size
  replace HEV := Lib.hid (HEV.out.g hg)
  replace HG := Lib.hid (g2 HG.out hg)
  have h1 : ∀ i, Mut I i → w.heap.size ≤ i := fun i hi => Nat.le_trans hwW (hm1 i hi)
  have h2 : ∀ i, BOwn J i → w.heap.size ≤ i := fun i hi => Nat.le_trans hwW (hm2 i hi)
  clear hg c0 c1 c2 HB HQ hwW hm1 hm2
  have HH := Lib.hid hst
  have HA := Lib.hid ha
  have HEX := Lib.hid hex
  have HM1 := Lib.hid h1
  have HM2 := Lib.hid h2
  clear hst ha hex h1 h2
  go_wp2_with fail
  have mf := fun w => me_feedB J.q w
  have mh := fun w => me_headB J.q w
  refine wp_loop_rounds 3 ?_
  rw [rounds_succ]
  go_upto_region 7 with (fail)
  go_wp2_with (first
    | refine wpList_load_blk (off := 0) HBE.out rfl _ rfl rfl _ Tryz.underlying68 rfl (evCells 0 2 0 0 0 (.slice none 0 0) (.slice none 0 0)) (by as_aux_lemma => kernel_rfl) rfl ?_
    | refine wpList_load_blk (off := 0) HEV.out rfl _ rfl rfl _ Tryz.underlying68 rfl (evCells 0 2 0 0 0 (.slice none 0 0) (.slice none 0 0)) (by as_aux_lemma => kernel_rfl) rfl ?_
    | (refine wpList_store_new rfl (evCells 0 2 0 0 0 (.slice none 0 0) (.slice none 0 0)) ⟨_, _, rfl, rfl, rfl⟩ (by as_aux_lemma => kernel_rfl) rfl (by simp [evCells, Value.oneCell']) ?_; intro w2 hbE hgE; have HBE := Lib.hid hbE; replace HH := Lib.hid (HH.out.g hgE); replace HA := Lib.hid (HA.out.kept0 hgE); replace HEV := Lib.hid (HEV.out.g hgE); replace HG := Lib.hid (g2 HG.out hgE); clear hbE hgE))
  refine (bfeed_tick HH.out HA.out (fun i hi => by rw [HEX.out]; exact hi) 2).mono ?_
  rintro e w3 ⟨rfl, hst, ha, hc⟩
  rw [errV0]
  have hgw := HG.out.size
  have hgg := (((Chg.of (S := Mut I) HG.out)).trans hc).non HM1.out
  replace HEV := Lib.hid (hc.blk HEV.out (fun h => by have := HM1.out ge h; have := HQ_q.out; omega))
  clear HH HA HG HBE hgw hc
  have HH := Lib.hid hst
  have HA := Lib.hid ha
  have HG := Lib.hid hgg
  clear hst ha hgg
  change Hid (StoreAt w3 _ sgA) at HH
  go_wp2_with fail
  refine (number_nil w3).mono ?_
  rintro e w4 ⟨rfl, hg⟩
  replace HEV := Lib.hid (HEV.out.g hg)
  replace HH := Lib.hid (HH.out.g hg)
  replace HA := Lib.hid (HA.out.kept0 hg)
  replace HG := Lib.hid (g2 HG.out hg)
  clear hg
  go_wp2_with fail
  obtain ⟨a1, a2, a3⟩ := sgA_parts
  refine (bhead_calls HH.out wfA HA.out risA (by simp) (sortUpTo2.less (by rw [sgA_eq]; show 1 ≤ 2; omega)) (wt0 sgA bkt0) (fun W hW r hr => weight0_calls (HH.out.g hW) wfA (HA.out.kept0 hW) rfl rfl wfA.bo hr)).mono ?_
  rintro e w5 ⟨r, rfl, hr, hg⟩
  rw [a1, a2, a3] at hr
  obtain rfl := hr.unique (hdA _ _)
  replace HEV := Lib.hid (HEV.out.g hg)
  replace HH := Lib.hid (HH.out.g hg)
  replace HA := Lib.hid (HA.out.kept0 hg)
  replace HG := Lib.hid (g2 HG.out hg)
  clear hg hr a1 a2 a3
  obtain ⟨N1, hN1⟩ : ∃ N1, N1 = w5.heap.size := ⟨_, rfl⟩
  have hmx : ∀ i, Mut I i → i < N1 := fun i hi => by rw [hN1]; exact HH.out.lt hi
  have hox : ∀ i, BOwn J i → i < N1 := fun i hi => by
    rw [hN1]
    rcases hi with e | e | e
    · rw [e]; exact HA.out.blk.lt
    · rw [e]; exact HA.out.buckets.lt
    · exact (HA.out.lokb i e).1
  have HMX := Lib.hid hmx
  have HOX := Lib.hid hox
  clear hmx hox
  go_wp2_with fail
  refine (canon_calls HH.out wfA parA risA (sortUpTo2.less (by rw [sgA_eq]; show 1 ≤ 2; omega)) (hd := 1) (by unfold inU; omega)).mono ?_
  rintro e w6 ⟨s1, rfl, hs1, hg⟩
  rw [← hN1] at hs1
  have hw6 : N1 ≤ w6.heap.size := by rw [hN1]; exact hg.size
  have hwN : w.heap.size ≤ N1 := by rw [hN1]; exact HG.out.size
  have hpos1 : 0 < (canonF sgA [1] 1).length := by unfold canonF; simp [putF_len, headN]; omega
  obtain ⟨gs1, cs1, rfl, _, _⟩ := hs1.form hpos1
  obtain ⟨L1, hL1⟩ : ∃ L1, L1 = canonF sgA [1] 1 := ⟨_, rfl⟩
  rw [← hL1] at hs1 ⊢
  replace HEV := Lib.hid (HEV.out.g hg)
  replace HH := Lib.hid (HH.out.g hg)
  replace HA := Lib.hid (HA.out.kept0 hg)
  replace HG := Lib.hid (g2 HG.out hg)
  have HS1 := Lib.hid hs1
  have HL1 := Lib.hid hL1
  clear hs1 hL1
  clear hg hpos1 hN1
  obtain ⟨i0, hi0⟩ := elem_line
  have HI := Lib.hid hi0
  clear hi0
  go_wp2_with (at_builtin; refine wpList_append_lies _ rfl _ _ 40 rfl N1 48 i0 (.agg #[.int .i64 0, .slice none 0 0]) 2 32 Tryz.underlying40 HI.out.1 HI.out.2.1 HI.out.2.2.1 HI.out.2.2.2 rfl (by decide) (.slice none 0 0) 0 [] rfl (World.ownsRow_nil _ _ _ _) ⟨w6.heap.size, 0, none⟩ 1 1 [.int .i64 0, .slice (some ⟨gs1, 0, none⟩) L1.length cs1] rfl rfl (World.news_of_block (MapKept.heap_alloc _ _).1) (by simp [Value.oneCell']) (by decide) (by unfold maxLen; omega) (by omega) (by simp; omega) _ rfl ?_; intro gl cl w7 hl hgl7 hatl hltl; have HL := Lib.hid hl; have HG7 := Lib.hid hgl7; clear hl hgl7 hatl hltl)
  have hg7 : w6.grownBy w7 none := g2 (World.grownBy_alloc w6 _ none) HG7.out
  have hl := HL.out
  rw [Nat.zero_add, List.nil_append] at hl
  replace HEV := Lib.hid (HEV.out.g hg7)
  replace HH := Lib.hid (HH.out.g hg7)
  replace HA := Lib.hid (HA.out.kept0 hg7)
  replace HS1 := Lib.hid (HS1.out.kept hg7 (.inr (by simp [Value.ownBlock])))
  replace HG := Lib.hid (g2 HG.out hg7)
  clear HL HG7
  have HL := Lib.hid hl
  clear hl hg7
  rw [rounds_succ]
  go_wp2_with (first
    | refine wpList_load_blk (off := 0) HBE.out rfl _ rfl rfl _ Tryz.underlying68 rfl (evCells 1 0 2 1 2 (.slice none 0 0) (.slice none 0 0)) (by as_aux_lemma => kernel_rfl) rfl ?_
    | refine wpList_load_blk (off := 28) HEV.out rfl _ rfl rfl _ Tryz.underlying68 rfl (evCells 1 0 2 1 2 (.slice none 0 0) (.slice none 0 0)) (by as_aux_lemma => kernel_rfl) rfl ?_
    | (refine wpList_store_new rfl (evCells 1 0 2 1 2 (.slice none 0 0) (.slice none 0 0)) ⟨_, _, rfl, rfl, rfl⟩ (by as_aux_lemma => kernel_rfl) rfl (by simp [evCells, Value.oneCell']) ?_; intro w8 hbE hgE; have HBE := Lib.hid hbE; replace HH := Lib.hid (HH.out.g hgE); replace HA := Lib.hid (HA.out.kept0 hgE); replace HL := Lib.hid (HL.out.kept hgE (.inr (by simp [Value.ownBlock]))); replace HS1 := Lib.hid (HS1.out.kept hgE (.inr (by simp [Value.ownBlock]))); replace HG := Lib.hid (g2 HG.out hgE); clear hbE hgE))
  have hx : ({ I with ch := .slice none 0 0 } : Ids).ex = BOwn J := HEX.out
  refine (bfeed_add HH.out wfA HA.out hx (by show 1 ≤ 2000; omega) add1 (kq := 0) rfl (by omega) rfl).mono ?_
  rintro e w9 ⟨ch, lok, rfl, hst, ha, hc⟩
  have hown : ∀ b, N1 ≤ b → ¬ (Mut I b ∨ BOwn J b) := fun b hb h => by
    rcases h with h | h
    · have := HMX.out b h; omega
    · have := HOX.out b h; omega
  have hgg := (((Chg.of (S := fun i => Mut I i ∨ BOwn J i) HG.out)).trans hc).non (fun i hi => by rcases hi with h | h; exact HM1.out i h; exact HM2.out i h)
  have hl9 := ownsRow_chg HL.out hc (fun k hk => hown k (HL.out.lt k hk).1)
  have hs9 := ownsRow_chg HS1.out hc (fun k hk => hown k (HS1.out.lt k hk).1)
  clear HH HA HG HL HS1 HBE HEV hx hown hc
  have HH := Lib.hid hst
  have HA := Lib.hid ha
  have HG := Lib.hid hgg
  have HL := Lib.hid hl9
  have HS1 := Lib.hid hs9
  clear hst ha hgg hl9 hs9
  change Hid (StoreAt w9 _ sgB) at HH
  go_wp2_with fail
  refine (number_nil w9).mono ?_
  rintro e w10 ⟨rfl, hg⟩
  replace HH := Lib.hid (HH.out.g hg)
  replace HA := Lib.hid (HA.out.kept0 hg)
  replace HL := Lib.hid (HL.out.kept hg (.inr (by simp [Value.ownBlock])))
  replace HS1 := Lib.hid (HS1.out.kept hg (.inr (by simp [Value.ownBlock])))
  replace HG := Lib.hid (g2 HG.out hg)
  clear hg
  go_wp2_with fail
  obtain ⟨y1, y2, y3, y4, y5, y6⟩ := sgB_parts
  have hsu : SortUpTo sgB.n := sortUpTo2.less (by omega)
  have hm2 : MayLead sgB.F sgB.f [1, 2] (srcG sgB) sgB.je sgB.fr (eOf sgB.slot sgB.S) 2 := by rw [y1, y2, y3, y4]; exact may2 _ _
  have HM2 := Lib.hid hm2
  have HSU := Lib.hid hsu
  clear hm2 hsu
  refine (bhead_calls HH.out wfB HA.out risB (by simp) HSU.out (wt0 sgB (addB bkt0 2 1 0)) (fun W hW r hr => weight0_calls (HH.out.g hW) wfB (HA.out.kept0 hW) rfl rfl wfB.bo hr)).mono ?_
  rintro e w11 ⟨r, rfl, hr, hg⟩
  have hm2 := HM2.out
  obtain ⟨MAY, hMAY⟩ : ∃ MAY, MAY = MayLead sgB.F sgB.f [1, 2] (srcG sgB) sgB.je sgB.fr (eOf sgB.slot sgB.S) := ⟨_, rfl⟩
  rw [← hMAY] at hr hm2
  rw [y1, y2, y5] at hr
  obtain rfl := hr.unique (hdB2 hm2 _)
  replace HH := Lib.hid (HH.out.g hg)
  replace HL := Lib.hid (HL.out.kept hg (.inr (by simp [Value.ownBlock])))
  replace HS1 := Lib.hid (HS1.out.kept hg (.inr (by simp [Value.ownBlock])))
  replace HG := Lib.hid (g2 HG.out hg)
  clear hg hr hm2 hMAY y1 y2 y3 y4 y5 y6 HA
  go_wp2_with fail
  refine (canon_calls HH.out wfB parB risB HSU.out (hd := 2) (by unfold inU; omega)).mono ?_
  rintro e w12 ⟨s2, rfl, hs2, hg⟩
  have hpos2 : 0 < (canonF sgB [1, 2] 2).length := by unfold canonF; simp [putF_len, headN]; omega
  obtain ⟨gs2, cs2, rfl, _, _⟩ := hs2.form hpos2
  obtain ⟨L2, hL2⟩ : ∃ L2, L2 = canonF sgB [1, 2] 2 := ⟨_, rfl⟩
  rw [← hL2] at hs2 ⊢
  have hs2' := ownsRow_base hs2 HG.out.size
  replace HL := Lib.hid (HL.out.kept hg (.inr (by simp [Value.ownBlock])))
  replace HS1 := Lib.hid (HS1.out.kept hg (.inr (by simp [Value.ownBlock])))
  have hN12 : N1 ≤ w12.heap.size := by have := (HL.out.lt gl rfl); omega
  replace HG := Lib.hid (g2 HG.out hg)
  have HS2 := Lib.hid hs2'
  have HL2 := Lib.hid hL2
  clear hs2' hL2
  clear hg hpos2 hs2 HH
  go_wp2_with (at_builtin; refine wpList_append_lies _ rfl _ _ 40 rfl N1 48 i0 (.agg #[.int .i64 0, .slice none 0 0]) 2 32 Tryz.underlying40 HI.out.1 HI.out.2.1 HI.out.2.2.1 HI.out.2.2.2 rfl (by decide) (.slice (some ⟨gl, 0, none⟩) 1 cl) 1 [.int .i64 0, .slice (some ⟨gs1, 0, none⟩) L1.length cs1] rfl (HL.out.alloc _) ⟨w12.heap.size, 0, none⟩ 1 1 [.int .i64 0, .slice (some ⟨gs2, 0, none⟩) L2.length cs2] rfl rfl (World.news_of_block (MapKept.heap_alloc _ _).1) (by simp [Value.oneCell']) (by decide) (by unfold maxLen; omega) (by omega) (by simp; omega) _ rfl ?_; intro gl2 cl2 w13 hl hgl7 hatl hltl; have HL3 := Lib.hid hl; have HG13 := Lib.hid hgl7; clear hl hgl7 hatl hltl)
  rw [rounds_succ]
  go_wp2
  go_ret2
  have hne1 : gs1 ≠ gl := fun e => by
    obtain ⟨c1, h1⟩ := ownsRow_type HS1.out (k := gs1) rfl
    obtain ⟨c2, h2⟩ := ownsRow_type HL.out (k := gl) rfl
    rw [e, h2] at h1
    cases h1
  have hne2 : gs2 ≠ gl := fun e => by
    obtain ⟨c1, h1⟩ := ownsRow_type HS2.out (k := gs2) rfl
    obtain ⟨c2, h2⟩ := ownsRow_type HL.out (k := gl) rfl
    rw [e, h2] at h1
    cases h1
  have hg13 : World.grownBy _ w13 (some gl) := HG13.out
  have hal := World.grownBy_alloc w12 (Obj.cells #[.int .i64 0, .slice (some ⟨gs2, 0, none⟩) L2.length cs2] 48) none
  have hs1' := (HS1.out.kept hal (.inr (by simp [Value.ownBlock]))).kept hg13 (.inr (by simpa [Value.ownBlock] using hne1))
  have hs2'' := (HS2.out.kept hal (.inr (by simp [Value.ownBlock]))).kept hg13 (.inr (by simpa [Value.ownBlock] using hne2))
  have hgl1 := (HL.out.lt gl rfl).1
  refine ⟨_, _, _, rfl, ownsRow_base HL3.out hwN, ?_, ?_, gnew (g2 HG.out hal) hg13 (by omega)⟩
  · rw [← HL1.out]; exact ownsRow_base hs1' hwN
  · rw [← HL2.out]; exact hs2''
end
end Go.Proofs.YtndfpmboanohcaaGreatDoor
