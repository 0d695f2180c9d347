/- Contract of (*store.Store).propose at a block that is taken, with no votes and no proofs, and nothing later is justified. -/
import Derived.Test.YtndfpmboanohcaaGreatDoorSto3ToWid
namespace Go.Proofs.YtndfpmboanohcaaGreatDoor
set_option maxRecDepth 100000
open Go.RowKit Go.Maps SkipPure
theorem WellT.set {f : Int} {F : Int → Option (Int × Int × Int)} (W : WellT f F) {r q s qq qs qh : Int} (hr : inU r) (hF : F q = some (qq, qs, qh)) (hn : F r = none) (hs : qs < s) (hs1 : s ≤ 1099511627776) (hh : qh < 1000000) : WellT f (tset F r (q, s, qh + 1)) := by
 have hqr : q ≠ r := fun e => by rw [e, hn] at hF; cases hF
 have hq := W.slot q _ hF
 have hq2 := W.hgt q _ hF
 simp only at hq hq2
 refine ⟨?_, ?_, ?_, ?_, ?_⟩
 ·have := W.first
  unfold tset
  split
  ·rfl
  ·exact this
 ·intro j y hy hj
  unfold tset at hy ⊢
  split at hy
  ·obtain rfl := Option.some.inj hy
   simp only
   rw [if_neg hqr]
   exact ⟨_, hF, hs⟩
  ·obtain ⟨z, hz, hlt⟩ := W.up j y hy hj
   rw [if_neg (fun e => by rw [e, hn] at hz; cases hz)]
   exact ⟨z, hz, hlt⟩
 ·intro j y hy
  unfold tset at hy
  split at hy
  ·subst j; exact hr
  ·exact W.key j y hy
 ·intro j y hy
  unfold tset at hy
  split at hy
  ·obtain rfl := Option.some.inj hy
   exact ⟨by show 0 ≤ s; omega, hs1⟩
  ·exact W.slot j y hy
 ·intro j y hy
  unfold tset at hy
  split at hy
  ·obtain rfl := Option.some.inj hy
   exact ⟨by show 0 ≤ qh + 1; omega, by show qh + 1 ≤ 1000000; omega⟩
  ·exact W.hgt j y hy
theorem info_chg : (Tryz.prog.info? 178).map (fun i => (i.zero, i.size, i.bytes)) = some (some (.agg #[.int .i64 0, .int .u64 0, .int .u64 0, .int .i64 0, .int .u64 0, .bool false]), 6, 48) := by kernel_rfl
theorem elem_chg : ∃ i, Elem Tryz.prog 178 i (.agg #[.int .i64 0, .int .u64 0, .int .u64 0, .int .i64 0, .int .u64 0, .bool false]) 6 48 := info_parts info_chg
theorem zero133 (w : World) : (zeroValue 133).run Tryz.prog w = .ok (.agg #[.bool false, .bool false, .bool false, .bool false, .int .i64 0, .int .u64 0, .int .i64 0, .int .u64 0, .int .i64 0, .int .u64 0, .int .i64 0, .slice none 0 0, .slice none 0 0]) w := by kernel_rfl
def LedC (x : Led) (a b : Value) : Array Value := #[.bool x.j.b0, .bool x.j.b1, .bool x.j.b2, .bool x.j.b3, .int .i64 x.j.pe, .int .u64 x.j.pr, .int .i64 x.j.ce, .int .u64 x.j.cr, .int .i64 x.j.fe, .int .u64 x.j.fr, .int .i64 x.ep, a, b]
theorem ledV_eq (x : Led) (a b : Value) : ledV x a b = .agg (LedC x a b) := rfl
theorem zeroB (w : World) : (zeroValue 4).run Tryz.prog w = .ok (.bool false) w := by kernel_rfl
section
variable {w : World} {I : Ids} {σ : St}
theorem LedAt.here {w : World} {ok : Nat → Prop} {N : Nat} {x : Led} {v : Value} (h : LedAt w ok N x v) (hN : 0 < N) : LedAt w (fun i => ok i ∧ i < w.heap.size) N x v := by
 obtain ⟨g, c, g2, d, hv, h3, h4, h5, h6⟩ := h
 exact ⟨g, c, g2, d, hv, h3, h4, ⟨h5, h3.lt hN⟩, ⟨h6, h4.lt hN⟩⟩
theorem StoreAt.lt (h : StoreAt w I σ) {i : Nat} (hi : Mut I i) : i < w.heap.size := by
 rcases hi with rfl | rfl | rfl | rfl | rfl | rfl
 ·exact h.blk.lt
 ·exact Blk.lt (q := I.tp) h.tree.2.1
 ·exact h.tree.2.2.lt
 ·exact h.votes.lt
 ·obtain ⟨_, _, _, h, _⟩ := h.led; exact h.lt
 ·exact h.gone.lt
theorem StoreAt.far (h : StoreAt w I σ) {i : Nat} (hi : Far I i) : i < w.heap.size := hi.elim h.lt (h.exlt i)
def blockV (r q s : Int) : Value := .agg #[.int .u64 r, .int .u64 q, .int .i64 s, .slice none 0 0, .slice none 0 0]
def addS (σ : St) (r q s qh : Int) (x : Led) : St :=
 { σ with n := σ.n + 1, F := tset σ.F r (q, s, qh + 1), L := ledSet σ.L r (advF σ.bs σ.S (tset σ.F r (q, s, qh + 1)) σ.f r x s), boosted := if s = σ.slot ∧ σ.boosted = 0 then r else σ.boosted }
def addedRow (r q : Int) : List Value := [.int .i64 0, .int .u64 r, .int .u64 q, .int .i64 0, .int .u64 0, .bool false]
set_option maxHeartbeats 8000000 in
theorem propose_calls (h : StoreAt w I σ) (hw : StWf σ) (hch : I.ch = .slice none 0 0) {r q s qq qs qh : Int} {x : Led} (hr : inU r) (hr0 : r ≠ 0) (hs : s ≤ σ.slot) (hgone : ¬ σ.gone r) (hF : σ.F q = some (qq, qs, qh)) (hn : σ.F r = none)
  (hqs : qs < s) (hsz : σ.n < 1024) (hqh : qh < 1000000) (hL : σ.L q = some x) (hj : (advF σ.bs σ.S (tset σ.F r (q, s, qh + 1)) σ.f r x s).j.ce ≤ σ.je) (hf : (advF σ.bs σ.S (tset σ.F r (q, s, qh + 1)) σ.f r x s).j.fe ≤ σ.fe) (hE : ¬ eOf s σ.S < eOf σ.slot σ.S) :
  Calls Tryz.prog 36 #[.pointer (some ⟨I.p, 0, none⟩), blockV r q s] w fun e w' => ∃ g c, e = .returned .nilIface ∧ StoreAt w' { I with ch := .slice (some ⟨g, 0, none⟩) 1 c } (addS σ r q s qh x) ∧
   w'.ownsRow w.heap.size 178 6 (.slice (some ⟨g, 0, none⟩) 1 c) 1 (addedRow r q) ∧ Chg (Mut I) w w' := by
 have hmay := hw.may
 have hWF := hw.tree
 have hs1 := hw.s1
 have hsl := hWF.slot _ _ hF
 have hqU := hWF.key _ _ hF
 have hqh0 := hWF.hgt _ _ hF
 have hWF2 := hWF.set hr hF hn hqs (by omega) hqh
 have hML : ∀ i, Far I i → i < w.heap.size := fun i hi => h.far hi
 have hxb := hw.ledbd _ _ hL
 have hks := hw.ks
 obtain ⟨T, hT⟩ : ∃ T, T = tset σ.F r (q, s, qh + 1) := ⟨_, rfl⟩
 rw [← hT] at hWF2 hj hf
 obtain ⟨X, hX⟩ : ∃ X, X = advF σ.bs σ.S T σ.f r x s := ⟨_, rfl⟩
 rw [← hX] at hj hf
 have HH := lh h
 obtain ⟨i0, hi0⟩ := elem_chg
 have HI := lh hi0
 clear hi0
 have HW := lh hw
 have HCH := lh hch
 have HGONE := lh hgone
 have HFq := lh hF
 have HN := lh hn
 have HL := lh hL
 have HJ := lh hj
 have HF := lh hf
 have HE := lh hE
 have HMAY := lh hmay
 have HWF := lh hWF
 have HWF2 := lh hWF2
 have HML := lh hML
 have HXB := lh hxb
 have HKS := lh hks
 have HT := lh hT
 have HX := lh hX
 clear hw hch hgone hF hn hL hj hf hE hmay hWF hWF2 hML hxb hks hT hX
 clear h
 unfold blockV
 go_enter Tryz.func36, Tryz.ntmps36
 go_upto_region 1 with (fail)
 refine nmC1 ?_
 intro W b0 hz hg
 have hpl := HH.out.blk.lt
 obtain ⟨qb, hq_qb⟩ : ∃ q, q = w.heap.size := ⟨_, rfl⟩
 rw [← hq_qb] at b0 hz hpl ⊢
 have HQ_qb := lh hq_qb
 clear hq_qb
 have HB0 := lh b0
 have HG := lh hg
 clear b0 hg
 replace HH := lh (HH.out.g HG.out)
 obtain ⟨c0, c1, c2, c3, c4⟩ := HB0.out.c5
 have d5 := HH.out.s5; have d12 := HH.out.s12; have d13 := HH.out.s13
 rw [HCH.out] at d13
 go_region_held3 (fun w' => w'.cell? ⟨I.p, 5, none⟩ = some (.int .i64 σ.slot) ∧ w'.cell? ⟨qb, 2, none⟩ = some (.int .i64 s)) (go_keep) (fail)
 go_upto_region 7 with (fail)
 replace HH := lh (HH.out.g (gdrew (gR _ none)))
 replace HB0 := lh (HB0.out.g (gdrew (gR _ none)))
 replace HG := lh (g2 HG.out (gdrew (gR _ none)))
 generalize W.drew = W1 at HH HB0 HG ⊢
 clear c0 c1 c2 c3 c4 d5 d12 d13
 have hlk : ∀ W2, W1.grownBy W2 none → (Instr.lookup 75 (.map (some I.gm)) (.int .u64 r) false).run Tryz.prog W2 = .ok (.bool false) W2 := fun W2 hg2 => by
  obtain ⟨n1, js1, k1, _⟩ := HH.out.gone
  have k2 := (k1.kept hg2 (by simp)).look (mt := 75) Tryz.underlying27 Tryz.underlying75 (zeroB _) hr
  rw [show setF σ.gone r = none from by unfold setF; rw [if_neg HGONE.out]] at k2
  exact k2
 have hlk2 := hlk _ (gdrew (gR _ none))
 clear hlk
 obtain ⟨c0, c1, c2, c3, c4⟩ := HB0.out.c5
 have d3 := HH.out.s3; have d12 := HH.out.s12
 go_region_held3 (fun w' => w'.cell? ⟨I.p, 12, none⟩ = some (.map (some I.gm)) ∧ w'.cell? ⟨qb, 0, none⟩ = some (.int .u64 r)) (go_keep) (fail)
 clear hlk2
 go_upto_region 9 with (fail)
 replace HH := lh (HH.out.g (gdrew (gR _ none)))
 replace HB0 := lh (HB0.out.g (gdrew (gR _ none)))
 replace HG := lh (g2 HG.out (gdrew (gR _ none)))
 generalize W1.drew = W2 at HH HB0 HG ⊢
 clear c0 c1 c2 c3 c4 d3 d12
 replace HH := lh (HH.out.g (gdrew (gR _ none)))
 replace HB0 := lh (HB0.out.g (gdrew (gR _ none)))
 replace HG := lh (g2 HG.out (gdrew (gR _ none)))
 obtain ⟨c0, c1, c2, c3, c4⟩ := HB0.out.c5
 have d3 := HH.out.s3
 go_region_held3 (fun w' => w'.cell? ⟨I.p, 3, none⟩ = some (.pointer (some ⟨I.tp, 0, none⟩)) ∧ w'.cell? ⟨qb, 0, none⟩ = some (.int .u64 r) ∧ w'.cell? ⟨qb, 1, none⟩ = some (.int .u64 q) ∧ w'.cell? ⟨qb, 2, none⟩ = some (.int .i64 s)) (go_keep)
  (first
    | (go_at_call 50
       refine (tadd_calls HH.out.tree hr hqU HFq.out HN.out hqs hsz (by have := hqh0; simp only at this; omega)).mono ?_
       rintro e w3 ⟨rfl, htree, hg3⟩
       rw [← HT.out] at htree
       have hst := HH.out.treed htree hg3
       have hbb := HB0.out.kept hg3 (by have := HML.out I.tb (.inl (.inr (.inr (.inl rfl)))); have := HQ_qb.out; simp; omega)
       have hcg := (Chg.of (S := Mut I) HG.out).trans (Chg.one hg3 (.inr (.inr (.inl rfl))))
       obtain ⟨c0, c1, c2, c3, c4⟩ := hbb.c5
       have d3 := hst.s3
       clear HH HB0 HG
       have HH := lh hst
       have HB0 := lh hbb
       have HC := lh hcg
       clear hst hbb hcg
       clear htree hg3))
 clear c0 c1 c2 c3 c4 d3
 go_upto_region 12 with (fail)
 replace HH := lh (HH.out.g (gdrew (gR _ none)))
 replace HB0 := lh (HB0.out.g (gdrew (gR _ none)))
 replace HC := lh (HC.out.g (gdrew (gR _ none)))
 have TK := lh fun w (hSw : (fun wr => StoreAt wr I { σ with n := σ.n + 1, f := σ.f, F := T } ∧ Blk wr qb #[.int .u64 r, .int .u64 q, .int .i64 s, .slice none 0 0, .slice none 0 0] 59) w) => And.intro hSw.2.c5 <| And.intro hSw.1.s3 <| hSw.1.s13
 refine wp_region_last (fun wr => StoreAt wr I { σ with n := σ.n + 1, f := σ.f, F := T } ∧ Blk wr qb #[.int .u64 r, .int .u64 q, .int .i64 s, .slice none 0 0, .slice none 0 0] 59) 14 (by as_aux_lemma => kernel_rfl) (⟨HH.out, HB0.out⟩) ?_
 intro hS
 generalize w3.drew = wd at HH HB0 HC hS ⊢
 have hqb0 := Nat.le_of_eq HQ_qb.out.symm
 have hwd := HC.out.size
 refine wL 0 ?_ ?_ hS ?_; rotate_left; · intro w hSw; obtain ⟨⟨c0, c1, c2, c3, c4⟩, d3, d13⟩ := TK.out w hSw; rw [HCH.out] at d13; go_simp; try with_reducible rfl
 simp only [zz]
 refine wL 1 ?_ ?_ hS ?_; rotate_left; · intro w hSw; obtain ⟨⟨c0, c1, c2, c3, c4⟩, d3, d13⟩ := TK.out w hSw; rw [HCH.out] at d13; go_simp; try with_reducible rfl
 simp only [zz]
 refine wL 2 ?_ ?_ hS ?_; rotate_left; · intro w hSw; obtain ⟨⟨c0, c1, c2, c3, c4⟩, d3, d13⟩ := TK.out w hSw; rw [HCH.out] at d13; go_simp; try with_reducible rfl
 simp only [zz]
 refine wL 3 ?_ ?_ hS ?_; rotate_left; · intro w hSw; obtain ⟨⟨c0, c1, c2, c3, c4⟩, d3, d13⟩ := TK.out w hSw; rw [HCH.out] at d13; go_simp; try with_reducible rfl
 simp only [zz]
 refine wL 4 ?_ ?_ hS ?_; rotate_left; · intro w hSw; obtain ⟨⟨c0, c1, c2, c3, c4⟩, d3, d13⟩ := TK.out w hSw; rw [HCH.out] at d13; go_simp; try with_reducible rfl
 simp only [zz]
 refine wL 5 ?_ ?_ hS ?_; rotate_left; · intro w hSw; obtain ⟨⟨c0, c1, c2, c3, c4⟩, d3, d13⟩ := TK.out w hSw; rw [HCH.out] at d13; go_simp; try with_reducible rfl
 simp only [zz]
 refine wL 6 ?_ ?_ hS ?_; rotate_left; · intro w hSw; obtain ⟨⟨c0, c1, c2, c3, c4⟩, d3, d13⟩ := TK.out w hSw; rw [HCH.out] at d13; go_simp; try with_reducible rfl
 simp only [zz]
 refine wL 7 ?_ ?_ hS ?_; rotate_left; · intro w hSw; obtain ⟨⟨c0, c1, c2, c3, c4⟩, d3, d13⟩ := TK.out w hSw; rw [HCH.out] at d13; go_simp; try with_reducible rfl
 simp only [zz]
 refine wL 8 ?_ ?_ hS ?_; rotate_left; · intro w hSw; obtain ⟨⟨c0, c1, c2, c3, c4⟩, d3, d13⟩ := TK.out w hSw; rw [HCH.out] at d13; go_simp; try with_reducible rfl
 simp only [zz]
 refine wL 9 ?_ ?_ hS ?_; rotate_left; · intro w hSw; obtain ⟨⟨c0, c1, c2, c3, c4⟩, d3, d13⟩ := TK.out w hSw; rw [HCH.out] at d13; go_simp; try with_reducible rfl
 simp only [zz]
 refine rL 10 fun K hK => ?_
 go_simp
 refine nmA1 ?_
 intro wm hmb hgg
 generalize hgm : wd.heap.size = gm at hmb ⊢
 have hS2 := And.intro (hS.1.g hgg) (hS.2.g hgg)
 have hwm := hgg.size
 replace HH := lh (HH.out.g hgg)
 replace HB0 := lh (HB0.out.g hgg)
 replace HC := lh (HC.out.g hgg)
 have HMB := lh hmb
 clear hmb hgm hgg
 refine hK.out _ _ (.inl hS2) ?_
 replace hS := hS2; clear hK K hS2
 try simp only [zz]
 refine rL 11 fun K hK => ?_
 refine wp_append_lies _ _ _ 76 (by rfl) _ 178 i0 (.agg #[.int .i64 0, .int .u64 0, .int .u64 0, .int .i64 0, .int .u64 0, .bool false]) 6 48 Tryz.underlying76 HI.out.1 HI.out.2.1 HI.out.2.2.1 HI.out.2.2.2 rfl (by decide) (.slice none 0 0) 0 [] (by rfl) (World.ownsRow_nil _ w.heap.size _ _) ⟨gm, 0, none⟩ 1 1 (addedRow r q) (by rfl) (by rfl) (World.news_of_block HMB.out) (by simp [addedRow, Value.oneCell']) (by omega) (by unfold maxLen; omega) (by omega) (by omega) _ rfl ?_
 intro g5 c5 w5 h5 hg5 hat5 hlt5
 have hgg : World.grownBy _ w5 none := hg5
 have hS2 := And.intro (hS.1.g hgg) (hS.2.g hgg)
 have hg5a : wm.heap.size ≤ g5 := by
  rcases hat5 with h | h
  ·cases h
  ·omega
 rw [Nat.zero_add, List.nil_append] at h5
 replace HH := lh (HH.out.g hgg)
 replace HB0 := lh (HB0.out.g hgg)
 replace HC := lh (HC.out.g hgg)
 have HAPP := lh h5
 clear hgg hg5 h5 hat5 hlt5
 refine hK.out _ _ (.inl hS2) ?_
 replace hS := hS2; clear hK K hS2
 try simp only [zz]
 refine rL 12 fun K hK => ?_
 go_simp
 have hS2 := hS
 refine hK.out _ _ (.inl hS2) ?_
 replace hS := hS2; clear hK K hS2
 try simp only [zz]
 refine wL 13 ?_ ?_ hS ?_; rotate_left; · intro w hSw; obtain ⟨⟨c0, c1, c2, c3, c4⟩, d3, d13⟩ := TK.out w hSw; rw [HCH.out] at d13; go_simp; try with_reducible rfl
 simp only [zz]
 refine rL 14 fun K hK => ?_
 have d3 := hS.1.s3; have d13 := hS.1.s13
 have f13 := hS.1.blk.fr 13
 go_simp
 refine hK.out _ _ (.inr rfl) ?_
 clear hK K
 try simp only [zz]
 refine dL ?_ _
 obtain ⟨t1, tz, t3⟩ := sto1 13 (.slice (some ⟨g5, 0, none⟩) 1 c5) hS.1.blk
 simp only [List.setIfInBounds_toArray, List.set_cons_zero, List.set_cons_succ] at t1
 have hst := hS.1.put (I' := { I with ch := .slice (some ⟨g5, 0, none⟩) 1 c5 }) (σ' := { σ with n := σ.n + 1, f := σ.f, F := T }) t3 t1 rfl rfl
 have hbb := hS.2.kept t3 (by simp; omega)
 have hpm := HML.out I.p (.inl (.inl rfl))
 have hrow := HAPP.out.kept t3 (.inr (by simp [Value.ownBlock]; omega))
 have hcg := HC.out.trans (Chg.one t3 (.inl rfl))
 generalize w5.setCell ⟨I.p, 13, none⟩ (.slice (some ⟨g5, 0, none⟩) 1 c5) = w6 at hst hbb hrow hcg ⊢
 clear HH HB0 HC HAPP HMB hS t1 tz t3
 have HH := lh hst
 have HB0 := lh hbb
 have HC := lh hcg
 have HROW := lh hrow
 clear hst hbb hcg hrow
 go_upto_region 13 with (fail)
 obtain ⟨c0, c1, c2, c3, c4⟩ := HB0.out.c5
 go_wp2_with fail
 refine (chain_calls2 HH.out.s3 HH.out.tree r).mono ?_
 rintro e w7 ⟨k1, k2, rfl, hch, hk1, hk2, hgg⟩
 have hk1w := Nat.le_trans HC.out.size hk1
 have hk2w := Nat.le_trans HC.out.size hk2
 clear hk1 hk2
 replace HROW := lh (HROW.out.kept hgg (.inr (by simp [Value.ownBlock])))
 replace HH := lh (HH.out.g hgg)
 replace HB0 := lh (HB0.out.g hgg)
 replace HC := lh (HC.out.g hgg)
 have HCHN := lh hch
 clear hgg hch c0 c1 c2 c3 c4
 go_upto_region 14 with (fail)
 go_cut [7] (fun s7 wx => ∃ q7 gA dA gB dB, s7 = .pointer (some ⟨q7, 0, none⟩) ∧ Blk wx q7 (LedC X (.slice (some ⟨gA, 0, none⟩) σ.bs.length dA) (.slice (some ⟨gB, 0, none⟩) σ.bs.length dB)) 133 ∧
  LedAt wx (fun i => ¬ Far I i) σ.bs.length X (ledV X (.slice (some ⟨gA, 0, none⟩) σ.bs.length dA) (.slice (some ⟨gB, 0, none⟩) σ.bs.length dB)) ∧ LedBd X ∧ qb < q7 ∧
  StoreAt wx { I with ch := .slice (some ⟨g5, 0, none⟩) 1 c5 } { σ with n := σ.n + 1, f := σ.f, F := T } ∧ Blk wx qb #[.int .u64 r, .int .u64 q, .int .i64 s, .slice none 0 0, .slice none 0 0] 59 ∧
  wx.ownsRow w.heap.size 178 6 (.slice (some ⟨g5, 0, none⟩) 1 c5) 1 (addedRow r q) ∧ Chg (Mut I) w wx ∧ ChainAt wx k1 k2 I.p I.tp I.tb (σ.n + 1) σ.f T r)
 case first =>
  replace HROW := lh (HROW.out.kept (gdrew (gR _ none)) (.inr (by simp [Value.ownBlock])))
  replace HH := lh (HH.out.g (gdrew (gR _ none)))
  replace HB0 := lh (HB0.out.g (gdrew (gR _ none)))
  replace HC := lh (HC.out.g (gdrew (gR _ none)))
  replace HCHN := lh (HCHN.out.g (gdrew (gR _ none)))
  obtain ⟨nn, js, G, hm1, _, _, _, hm5⟩ := HH.out.led
  obtain ⟨v, hv1, hv2⟩ := (hm5 q).2 x HL.out
  have hN1 := HMAY.out.l1
  have hv3 := hv2.here (by show 0 < σ.bs.length; omega)
  obtain ⟨NN, hNN⟩ : ∃ NN, NN = w7.drew.heap.size := ⟨_, rfl⟩
  rw [← hNN] at hv3
  have hNB := HB0.out.lt
  rw [← hNN] at hNB
  have hNW := HC.out.size
  rw [← hNN] at hNW
  have HNN := lh hNN
  have HGD := lh (gR w7.drew none)
  have HV1 := lh hv1
  clear hv1
  clear hm5 hNN hv2
  have TK := lh fun w (hSw : (fun wr => StoreAt wr { I with ch := .slice (some ⟨g5, 0, none⟩) 1 c5 } { σ with n := σ.n + 1, f := σ.f, F := T } ∧ Blk wr qb #[.int .u64 r, .int .u64 q, .int .i64 s, .slice none 0 0, .slice none 0 0] 59 ∧ RawMap Tryz.prog 27 wr I.lm nn G ∧ LedAt wr (fun i => ¬ Far I i ∧ i < NN) σ.bs.length x v ∧ ChainAt wr k1 k2 I.p I.tp I.tb (σ.n + 1) σ.f T r) w) => And.intro hSw.2.1.c5 <| And.intro hSw.1.s0 <| And.intro hSw.1.s1 <| And.intro hSw.1.s2 <| And.intro hSw.1.s3 <| And.intro hSw.1.s11 <| hSw.2.2.1.look (mt := 74) Tryz.underlying27 Tryz.underlying74 (zero133 _) hqU
  refine wp_region_last (fun wr => StoreAt wr { I with ch := .slice (some ⟨g5, 0, none⟩) 1 c5 } { σ with n := σ.n + 1, f := σ.f, F := T } ∧ Blk wr qb #[.int .u64 r, .int .u64 q, .int .i64 s, .slice none 0 0, .slice none 0 0] 59 ∧ RawMap Tryz.prog 27 wr I.lm nn G ∧ LedAt wr (fun i => ¬ Far I i ∧ i < NN) σ.bs.length x v ∧ ChainAt wr k1 k2 I.p I.tp I.tb (σ.n + 1) σ.f T r) 16 (by as_aux_lemma => kernel_rfl) (⟨HH.out, HB0.out, hm1, hv3, HCHN.out⟩) ?_
  intro hS
  clear hm1 hv3
  generalize w7.drew = wd at HH HB0 HC HCHN HROW HNN HGD hS ⊢
  refine wL 0 ?_ ?_ hS ?_; rotate_left; · intro w hSw; obtain ⟨⟨c0, c1, c2, c3, c4⟩, d0, d1, d2, d3, d11, hlk⟩ := TK.out w hSw; rw [HV1.out] at hlk; go_simp; try with_reducible rfl
  simp only [zz]
  refine wL 1 ?_ ?_ hS ?_; rotate_left; · intro w hSw; obtain ⟨⟨c0, c1, c2, c3, c4⟩, d0, d1, d2, d3, d11, hlk⟩ := TK.out w hSw; rw [HV1.out] at hlk; go_simp; try with_reducible rfl
  simp only [zz]
  refine wL 2 ?_ ?_ hS ?_; rotate_left; · intro w hSw; obtain ⟨⟨c0, c1, c2, c3, c4⟩, d0, d1, d2, d3, d11, hlk⟩ := TK.out w hSw; rw [HV1.out] at hlk; go_simp; try with_reducible rfl
  simp only [zz]
  refine wL 3 ?_ ?_ hS ?_; rotate_left; · intro w hSw; obtain ⟨⟨c0, c1, c2, c3, c4⟩, d0, d1, d2, d3, d11, hlk⟩ := TK.out w hSw; rw [HV1.out] at hlk; go_simp; try with_reducible rfl
  simp only [zz]
  refine wL 4 ?_ ?_ hS ?_; rotate_left; · intro w hSw; obtain ⟨⟨c0, c1, c2, c3, c4⟩, d0, d1, d2, d3, d11, hlk⟩ := TK.out w hSw; rw [HV1.out] at hlk; go_simp; try with_reducible rfl
  simp only [zz]
  refine wL 5 ?_ ?_ hS ?_; rotate_left; · intro w hSw; obtain ⟨⟨c0, c1, c2, c3, c4⟩, d0, d1, d2, d3, d11, hlk⟩ := TK.out w hSw; rw [HV1.out] at hlk; go_simp; try with_reducible rfl
  simp only [zz]
  refine wL 6 ?_ ?_ hS ?_; rotate_left; · intro w hSw; obtain ⟨⟨c0, c1, c2, c3, c4⟩, d0, d1, d2, d3, d11, hlk⟩ := TK.out w hSw; rw [HV1.out] at hlk; go_simp; try with_reducible rfl
  simp only [zz]
  refine wL 7 ?_ ?_ hS ?_; rotate_left; · intro w hSw; obtain ⟨⟨c0, c1, c2, c3, c4⟩, d0, d1, d2, d3, d11, hlk⟩ := TK.out w hSw; rw [HV1.out] at hlk; go_simp; try with_reducible rfl
  simp only [zz]
  refine wL 8 ?_ ?_ hS ?_; rotate_left; · intro w hSw; obtain ⟨⟨c0, c1, c2, c3, c4⟩, d0, d1, d2, d3, d11, hlk⟩ := TK.out w hSw; rw [HV1.out] at hlk; go_simp; try with_reducible rfl
  simp only [zz]
  refine wL 9 ?_ ?_ hS ?_; rotate_left; · intro w hSw; obtain ⟨⟨c0, c1, c2, c3, c4⟩, d0, d1, d2, d3, d11, hlk⟩ := TK.out w hSw; rw [HV1.out] at hlk; go_simp; try with_reducible rfl
  simp only [zz]
  refine wL 10 ?_ ?_ hS ?_; rotate_left; · intro w hSw; obtain ⟨⟨c0, c1, c2, c3, c4⟩, d0, d1, d2, d3, d11, hlk⟩ := TK.out w hSw; rw [HV1.out] at hlk; go_simp; try with_reducible rfl
  simp only [zz]
  refine wL 11 ?_ ?_ hS ?_; rotate_left; · intro w hSw; obtain ⟨⟨c0, c1, c2, c3, c4⟩, d0, d1, d2, d3, d11, hlk⟩ := TK.out w hSw; rw [HV1.out] at hlk; go_simp; try with_reducible rfl
  simp only [zz]
  refine wL 12 ?_ ?_ hS ?_; rotate_left; · intro w hSw; obtain ⟨⟨c0, c1, c2, c3, c4⟩, d0, d1, d2, d3, d11, hlk⟩ := TK.out w hSw; rw [HV1.out] at hlk; go_simp; try with_reducible rfl
  simp only [zz]
  refine wL 13 ?_ ?_ hS ?_; rotate_left; · intro w hSw; obtain ⟨⟨c0, c1, c2, c3, c4⟩, d0, d1, d2, d3, d11, hlk⟩ := TK.out w hSw; rw [HV1.out] at hlk; go_simp; try with_reducible rfl
  simp only [zz]
  refine aL [14, 15] (cL 14 (fun K hK => ?_) (cL 15 (fun K hK => ?_) nL))
  ·skip
   go_simp
   refine (adv_calls hS.2.2.2.2 HWF2.out hr hS.1.bal rfl HMAY.out hS.2.2.2.1 HXB.out (by omega)).mono ?_
   rintro e wg ⟨v2, rfl, hled2, hbd2, hgg⟩
   rw [← HX.out] at hled2 hbd2
   have hcs := HGD.out.size
   rw [← HNN.out] at hcs
   have hled3 := hled2.here (by show 0 < σ.bs.length; omega)
   obtain ⟨gA, dA, gB, dB, hv2e, _, _, _, _⟩ := id hled3
   subst hv2e
   have hS2 : (fun wr => _) wg := And.intro (hS.1.g hgg) (And.intro (hS.2.1.g hgg) (And.intro (hS.2.2.1.kept hgg (by simp)) (And.intro (LedAt.g hS.2.2.2.1 hgg) (hS.2.2.2.2.g hgg))))
   try (replace HQ7 := lh (HQ7.out.g hgg))
   try (replace HGD := lh (g2 HGD.out hgg))
   first
    | have HLED3 := lh (hled3.imp (ok' := fun i => ¬ Far I i ∧ i ≠ gm) (fun i hi => by have h1 := HGM.out.1; have h2 := HGM.out.2; rcases hi.1 with h | h; exact ⟨h.1, by omega⟩; exact ⟨fun hm => by have := HML.out i hm; have := HNN.out; omega, by omega⟩))
    | have HLED2 := lh (hled3.imp (ok' := fun i => ¬ Far I i ∧ i < wg.heap.size) (fun i hi => by rcases hi.1 with h | h; exact ⟨h.1, hi.2⟩; exact ⟨fun hm => by have := HML.out i hm; have := HNN.out; omega, hi.2⟩))
   have HBD2 := lh hbd2
   clear hgg hled2 hled3 hbd2 hcs
   rw [ledV_eq]
   refine hK.out _ _ (.inl hS2) ?_
   replace hS := hS2; clear hK K hS2
   refine rL 15 fun K hK => ?_
   go_simp
   refine nmA1 ?_
   intro wm hmb hgg
   first
    | (generalize hgm : wg.heap.size = gm at hmb ⊢; have HLED3 := lh (LedAt.imp (ok' := fun i => ¬ Far I i ∧ i ≠ gm) (LedAt.g HLED2.out hgg) (fun i hi => ⟨hi.1, by have := hi.2; omega⟩)))
    | generalize hgm : wd.heap.size = gm at hmb ⊢
   have hcs : NN ≤ gm := by rw [HNN.out, ← hgm]; exact HGD.out.size
   have hS2 : (fun wr => _) wm := And.intro (hS.1.g hgg) (And.intro (hS.2.1.g hgg) (And.intro (hS.2.2.1.kept hgg (by simp)) (And.intro (LedAt.g hS.2.2.2.1 hgg) (hS.2.2.2.2.g hgg))))
   have hgl := hmb.lt
   have HQ7 := lh hmb
   have HGM := lh (And.intro hcs hgl)
   try (replace HGD := lh (g2 HGD.out hgg))
   clear hgg hmb hgm hcs hgl
   refine hK.out _ _ (.inl hS2) ?_
   replace hS := hS2; clear hK K hS2
   try simp only [zz]
   refine rL 16 fun K hK => ?_
   refine step_store_blk HQ7.out rfl (LedC X (.slice (some ⟨gA, 0, none⟩) σ.bs.length dA) (.slice (some ⟨gB, 0, none⟩) σ.bs.length dB)) ⟨_, _, rfl, rfl, rfl⟩ (by as_aux_lemma => kernel_rfl) rfl (by simp [LedC, Value.oneCell']) ?_
   intro w16 t1 t3
   refine hK.out _ _ (.inr rfl) ?_
   clear hK K
   try simp only [zz]
   refine dL ?_ _
   have hgm1 := HGM.out.1
   have hfin := gnew HGD.out t3 (by rw [← HNN.out]; exact hgm1)
   have hled4 := HLED3.out.chg (Chg.one (S := fun i => i = gm) t3 rfl) (fun i hi => hi.2)
   have hled5 := hled4.imp (ok' := fun i => ¬ Far I i) (fun i hi => hi.1)
   have HR7 := lh (And.intro t1 (And.intro hfin hled5))
   clear t1 t3 hfin hled4 hled5
   go_wp2_with fail
   go_meet
   exact ⟨gm, gA, dA, gB, dB, rfl, HR7.out.1, HR7.out.2.2, HBD2.out, by omega, HH.out.g HR7.out.2.1, HB0.out.g HR7.out.2.1, HROW.out.kept HR7.out.2.1 (.inr (by simp [Value.ownBlock])), HC.out.g HR7.out.2.1, HCHN.out.g HR7.out.2.1⟩
  ·skip
   go_simp
   refine nmA1 ?_
   intro wm hmb hgg
   first
    | (generalize hgm : wg.heap.size = gm at hmb ⊢; have HLED3 := lh (LedAt.imp (ok' := fun i => ¬ Far I i ∧ i ≠ gm) (LedAt.g HLED2.out hgg) (fun i hi => ⟨hi.1, by have := hi.2; omega⟩)))
    | generalize hgm : wd.heap.size = gm at hmb ⊢
   have hcs : NN ≤ gm := by rw [HNN.out, ← hgm]; exact HGD.out.size
   have hS2 : (fun wr => _) wm := And.intro (hS.1.g hgg) (And.intro (hS.2.1.g hgg) (And.intro (hS.2.2.1.kept hgg (by simp)) (And.intro (LedAt.g hS.2.2.2.1 hgg) (hS.2.2.2.2.g hgg))))
   have hgl := hmb.lt
   have HQ7 := lh hmb
   have HGM := lh (And.intro hcs hgl)
   try (replace HGD := lh (g2 HGD.out hgg))
   clear hgg hmb hgm hcs hgl
   refine hK.out _ _ (.inl hS2) ?_
   replace hS := hS2; clear hK K hS2
   try simp only [zz]
   refine rL 14 fun K hK => ?_
   go_simp
   refine (adv_calls hS.2.2.2.2 HWF2.out hr hS.1.bal rfl HMAY.out hS.2.2.2.1 HXB.out (by omega)).mono ?_
   rintro e wg ⟨v2, rfl, hled2, hbd2, hgg⟩
   rw [← HX.out] at hled2 hbd2
   have hcs := HGD.out.size
   rw [← HNN.out] at hcs
   have hled3 := hled2.here (by show 0 < σ.bs.length; omega)
   obtain ⟨gA, dA, gB, dB, hv2e, _, _, _, _⟩ := id hled3
   subst hv2e
   have hS2 : (fun wr => _) wg := And.intro (hS.1.g hgg) (And.intro (hS.2.1.g hgg) (And.intro (hS.2.2.1.kept hgg (by simp)) (And.intro (LedAt.g hS.2.2.2.1 hgg) (hS.2.2.2.2.g hgg))))
   try (replace HQ7 := lh (HQ7.out.g hgg))
   try (replace HGD := lh (g2 HGD.out hgg))
   first
    | have HLED3 := lh (hled3.imp (ok' := fun i => ¬ Far I i ∧ i ≠ gm) (fun i hi => by have h1 := HGM.out.1; have h2 := HGM.out.2; rcases hi.1 with h | h; exact ⟨h.1, by omega⟩; exact ⟨fun hm => by have := HML.out i hm; have := HNN.out; omega, by omega⟩))
    | have HLED2 := lh (hled3.imp (ok' := fun i => ¬ Far I i ∧ i < wg.heap.size) (fun i hi => by rcases hi.1 with h | h; exact ⟨h.1, hi.2⟩; exact ⟨fun hm => by have := HML.out i hm; have := HNN.out; omega, hi.2⟩))
   have HBD2 := lh hbd2
   clear hgg hled2 hled3 hbd2 hcs
   rw [ledV_eq]
   refine hK.out _ _ (.inl hS2) ?_
   replace hS := hS2; clear hK K hS2
   refine rL 16 fun K hK => ?_
   refine step_store_blk HQ7.out rfl (LedC X (.slice (some ⟨gA, 0, none⟩) σ.bs.length dA) (.slice (some ⟨gB, 0, none⟩) σ.bs.length dB)) ⟨_, _, rfl, rfl, rfl⟩ (by as_aux_lemma => kernel_rfl) rfl (by simp [LedC, Value.oneCell']) ?_
   intro w16 t1 t3
   refine hK.out _ _ (.inr rfl) ?_
   clear hK K
   try simp only [zz]
   refine dL ?_ _
   have hgm1 := HGM.out.1
   have hfin := gnew HGD.out t3 (by rw [← HNN.out]; exact hgm1)
   have hled4 := HLED3.out.chg (Chg.one (S := fun i => i = gm) t3 rfl) (fun i hi => hi.2)
   have hled5 := hled4.imp (ok' := fun i => ¬ Far I i) (fun i hi => hi.1)
   have HR7 := lh (And.intro t1 (And.intro hfin hled5))
   clear t1 t3 hfin hled4 hled5
   go_wp2_with fail
   go_meet
   exact ⟨gm, gA, dA, gB, dB, rfl, HR7.out.1, HR7.out.2.2, HBD2.out, by omega, HH.out.g HR7.out.2.1, HB0.out.g HR7.out.2.1, HROW.out.kept HR7.out.2.1 (.inr (by simp [Value.ownBlock])), HC.out.g HR7.out.2.1, HCHN.out.g HR7.out.2.1⟩
 case rest =>
  obtain ⟨q7, gA, dA, gB, dB, rfl, hq7, hled, hbd, hqq, hst, hqb, hrow, hcg, hchn⟩ := hcut
  clear HH HB0 HC HCHN HROW
  have HH := lh hst
  have HB0 := lh hqb
  have HB7 := lh hq7
  have HLED := lh hled
  have HBD := lh hbd
  have HROW := lh hrow
  have HC := lh hcg
  have HCHN := lh hchn
  clear hst hqb hq7 hled hbd hrow hcg hchn
  obtain ⟨c0, c1, c2, c3, c4⟩ := HB0.out.c5
  go_wp2_with fail
  refine wp_loop_rounds 1 ?_
  rw [rounds_succ]
  go_wp2_with fail
  clear c0 c1 c2 c3 c4
  have hksx : ∃ ks : List Int, (∀ k, (σ.L k).isSome = true → k ∈ ks) ∧ ks.length ≤ 1000000 := by
   obtain ⟨ks, h1, h2⟩ := HKS.out
   exact ⟨ks, fun k hk => h2 k (by rw [← HW.out.led k]; exact hk), by omega⟩
  have HKX := lh hksx
  clear hksx
  replace HROW := lh (HROW.out.kept (gdrew (gR _ none)) (.inr (by simp [Value.ownBlock])))
  replace HH := lh (HH.out.g (gdrew (gR _ none)))
  replace HB0 := lh (HB0.out.g (gdrew (gR _ none)))
  replace HB7 := lh (HB7.out.g (gdrew (gR _ none)))
  replace HC := lh (HC.out.g (gdrew (gR _ none)))
  replace HCHN := lh (HCHN.out.g (gdrew (gR _ none)))
  replace HLED := lh (LedAt.g HLED.out (gdrew (gR _ none)))
  have TK := lh fun w (hSw : (fun wr => StoreAt wr { I with ch := .slice (some ⟨g5, 0, none⟩) 1 c5 } { σ with n := σ.n + 1, f := σ.f, F := T } ∧ Blk wr qb #[.int .u64 r, .int .u64 q, .int .i64 s, .slice none 0 0, .slice none 0 0] 59 ∧       Blk wr q7 (LedC X (.slice (some ⟨gA, 0, none⟩) σ.bs.length dA) (.slice (some ⟨gB, 0, none⟩) σ.bs.length dB)) 133) w) => And.intro hSw.2.1.c5 <| hSw.1.s11
  refine wp_region_last (fun wr => StoreAt wr { I with ch := .slice (some ⟨g5, 0, none⟩) 1 c5 } { σ with n := σ.n + 1, f := σ.f, F := T } ∧ Blk wr qb #[.int .u64 r, .int .u64 q, .int .i64 s, .slice none 0 0, .slice none 0 0] 59 ∧       Blk wr q7 (LedC X (.slice (some ⟨gA, 0, none⟩) σ.bs.length dA) (.slice (some ⟨gB, 0, none⟩) σ.bs.length dB)) 133) 7 (by as_aux_lemma => kernel_rfl) (⟨HH.out, HB0.out, HB7.out⟩) ?_
  intro hS
  generalize wc.drew = wd at HH HB0 HB7 HC HCHN HROW HLED hS ⊢
  refine tL 0 ?_
  simp only [zz]
  refine tL 1 ?_
  simp only [zz]
  refine tL 2 ?_
  simp only [zz]
  refine tL 3 ?_
  simp only [zz]
  refine tL 4 ?_
  simp only [zz]
  refine tL 5 ?_
  simp only [zz]
  refine wL 6 ?_ ?_ hS ?_; rotate_left; · intro w hSw; (refine exec_load_all (ty := 133) (hSw.2.2) ?_ _ Tryz.underlying133 rfl ?_ <;> first | exact ⟨_, rfl, rfl⟩ | (as_aux_lemma => kernel_rfl))
  simp only [zz]
  refine rL 7 fun K hK => ?_
  obtain ⟨ks, hk1, hk2⟩ := HKX.out
  refine wp_ledger (ks := ks) HH.out.led hk1 hk2 (fun hn => hn (.inl (.inr (.inr (.inr (.inr (.inl rfl))))))) _ _ _ rfl hr X HLED.out rfl rfl rfl ?_
  intro w9 hl9 hg9
  refine hK.out _ _ (.inr rfl) ?_
  clear hK K
  refine dL ?_ _
  have hst : StoreAt w9 { I with ch := .slice (some ⟨g5, 0, none⟩) 1 c5 } { σ with n := σ.n + 1, f := σ.f, F := T, L := ledSet σ.L r X } := HH.out.ledgered hl9 hg9
  have hlm := HML.out I.lm (.inl (.inr (.inr (.inr (.inr (.inl rfl))))))
  have hqw := Nat.le_of_eq HQ_qb.out.symm
  have hb0 := HB0.out.kept hg9 (by simp; omega)
  have hb7 := HB7.out.kept hg9 (by simp; omega)
  have hc9 := Chg.one (S := fun i => i = I.lm) hg9 rfl
  have hled := HLED.out.chg hc9 (fun i hi e => hi (.inl (.inr (.inr (.inr (.inr (.inl e)))))))
  have hnd := nodup6 HH.out.dist
  have hchn := HCHN.out.chg hc9 (by omega) (by omega) (fun e => hnd.2.2.2.1 e) (fun e => hnd.2.2.2.2.2.2.2.1 e) (fun e => hnd.2.2.2.2.2.2.2.2.2.2.1 e)
  have hcg := HC.out.trans (Chg.one (S := Mut I) hg9 (.inr (.inr (.inr (.inr (.inl rfl))))))
  have hrow := HROW.out.kept hg9 (.inr (by simp [Value.ownBlock]; have := HROW.out.lt g5 rfl; omega))
  clear HH HB0 HB7 HLED HCHN HC HROW hl9 hg9 hS hc9 hnd hlm hqw HKX
  have HH := lh hst
  have HB0 := lh hb0
  have HB7 := lh hb7
  have HLED := lh hled
  have HCHN := lh hchn
  have HC := lh hcg
  have HROW := lh hrow
  clear hst hb0 hb7 hled hchn hcg hrow
  go_upto_region 21 with (fail)
  obtain ⟨c0, c1, c2, c3, c4⟩ := HB0.out.c5
  go_wp2_with fail
  refine wp_loop_rounds 1 ?_
  rw [rounds_succ]
  go_wp2_with fail
  refine wp_loop_rounds 1 ?_
  rw [rounds_succ]
  go_wp2_with fail
  clear c0 c1 c2 c3 c4
  go_cut [158] (fun s158 wx => s158 = .bool (decide (s = σ.slot ∧ σ.boosted = 0)) ∧ w9.grownBy wx none)
  case first =>
   obtain ⟨c0, c1, c2, c3, c4⟩ := HB0.out.c5
   have d5 := HH.out.s5; have d6 := HH.out.s6
   by_cases hB1 : s = σ.slot
   ·have hB1' : (s == σ.slot) = true := by simp [hB1]
    by_cases hB2 : σ.boosted = 0
    ·have hB2' : (σ.boosted == 0) = true := by simp [hB2]
     have HD := lh (show decide (s = σ.slot ∧ σ.boosted = 0) = true from decide_eq_true ⟨hB1, hB2⟩)
     clear hB1 hB2
     go_quiet (fail)
     go_wp2_with fail
     go_meet
     exact ⟨by rw [HD.out], drewN_grown _ _⟩
    ·have hB2' : (σ.boosted == 0) = false := by simp [hB2]
     have HD := lh (show decide (s = σ.slot ∧ σ.boosted = 0) = false from decide_eq_false (fun h => hB2 h.2))
     clear hB1 hB2
     go_quiet (fail)
     go_wp2_with fail
     go_meet
     exact ⟨by rw [HD.out], drewN_grown _ _⟩
   ·have hB1' : (s == σ.slot) = false := by simp [hB1]
    have HD := lh (show decide (s = σ.slot ∧ σ.boosted = 0) = false from decide_eq_false (fun h => hB1 h.1))
    clear hB1
    go_quiet (fail)
    go_wp2_with fail
    go_meet
    exact ⟨by rw [HD.out], drewN_grown _ _⟩
  case rest =>
   obtain ⟨rfl, hgg⟩ := hcut
   replace HROW := lh (HROW.out.kept hgg (.inr (by simp [Value.ownBlock])))
   replace HH := lh (HH.out.g hgg)
   replace HB0 := lh (HB0.out.g hgg)
   replace HB7 := lh (HB7.out.g hgg)
   replace HC := lh (HC.out.g hgg)
   replace HCHN := lh (HCHN.out.g hgg)
   replace HLED := lh (LedAt.g HLED.out hgg)
   clear hgg
   obtain ⟨Bo, hBo⟩ : ∃ Bo, Bo = if s = σ.slot ∧ σ.boosted = 0 then r else σ.boosted := ⟨_, rfl⟩
   have HBO := lh hBo
   clear hBo
   go_upto_if 158 with (fail)
   go_cut [] (fun wx => StoreAt wx { I with ch := .slice (some ⟨g5, 0, none⟩) 1 c5 } { σ with n := σ.n + 1, f := σ.f, F := T, L := ledSet σ.L r X, boosted := Bo } ∧ Blk wx qb #[.int .u64 r, .int .u64 q, .int .i64 s, .slice none 0 0, .slice none 0 0] 59 ∧
    Blk wx q7 (LedC X (.slice (some ⟨gA, 0, none⟩) σ.bs.length dA) (.slice (some ⟨gB, 0, none⟩) σ.bs.length dB)) 133 ∧
    LedAt wx (fun i => ¬ Far I i) σ.bs.length X (ledV X (.slice (some ⟨gA, 0, none⟩) σ.bs.length dA) (.slice (some ⟨gB, 0, none⟩) σ.bs.length dB)) ∧
    wx.ownsRow w.heap.size 178 6 (.slice (some ⟨g5, 0, none⟩) 1 c5) 1 (addedRow r q) ∧ Chg (Mut I) w wx ∧ ChainAt wx k1 k2 I.p I.tp I.tb (σ.n + 1) σ.f T r)
   case first =>
    by_cases hB : s = σ.slot ∧ σ.boosted = 0
    ·have hbo := HBO.out
     rw [if_pos hB] at hbo
     replace hbo := hbo.symm
     subst hbo
     rw [decide_eq_true hB]
     clear hB
     obtain ⟨c0, c1, c2, c3, c4⟩ := HB0.out.c5
     have d5 := HH.out.s5; have d6 := HH.out.s6
     have f5 := HH.out.blk.fr 5; have f6 := HH.out.blk.fr 6
     go_wp2_with fail
     go_meet
     obtain ⟨t1, _, t3⟩ := sto1 6 (.int .u64 r) HH.out.blk
     simp only [List.setIfInBounds_toArray, List.set_cons_zero, List.set_cons_succ] at t1
     have hpm := HML.out I.p (.inl (.inl rfl))
     have hqw := Nat.le_of_eq HQ_qb.out.symm
     have hput := HH.out.put (I' := { I with ch := .slice (some ⟨g5, 0, none⟩) 1 c5 }) (σ' := { σ with n := σ.n + 1, f := σ.f, F := T, L := ledSet σ.L r X, boosted := r }) t3 t1 rfl rfl
     refine ⟨hput, HB0.out.kept t3 (by simp; omega), HB7.out.kept t3 (by simp; omega), HLED.out.chg (Chg.one (S := fun i => i = I.p) t3 rfl) (fun i hi e => hi (.inl (.inl e))),
      HROW.out.kept t3 (.inr (by simp [Value.ownBlock]; have := HROW.out.lt g5 rfl; omega)), HC.out.trans (Chg.one (S := Mut I) t3 (.inl rfl)), ⟨HCHN.out.b1.kept t3 (by simp; omega), HCHN.out.b2.kept t3 (by simp; omega), hput.s3, hput.tree⟩⟩
    ·have hbo := HBO.out
     rw [if_neg hB] at hbo
     subst hbo
     rw [decide_eq_false hB]
     clear hB
     go_wp2_with fail
     go_meet
     exact ⟨HH.out, HB0.out, HB7.out, HLED.out, HROW.out, HC.out, HCHN.out⟩
   case rest =>
    obtain ⟨hst, hb0, hb7, hled, hrow, hcg, hchn⟩ := hcut
    clear HH HB0 HB7 HLED HROW HC HCHN
    have HH := lh hst
    have HB0 := lh hb0
    have HB7 := lh hb7
    have HLED := lh hled
    have HROW := lh hrow
    have HC := lh hcg
    have HCHN := lh hchn
    clear hst hb0 hb7 hled hrow hcg hchn
    have e6 : _ = some (Value.int .i64 X.j.ce) := HB7.out.at 6
    have e7 : _ = some (Value.int .u64 X.j.cr) := HB7.out.at 7
    have e8 : _ = some (Value.int .i64 X.j.fe) := HB7.out.at 8
    have e9 : _ = some (Value.int .u64 X.j.fr) := HB7.out.at 9
    go_wp2_with fail
    refine (raise_still HH.out HJ.out HF.out).mono ?_
    rintro e w10 ⟨rfl, hgg⟩
    replace HROW := lh (HROW.out.kept hgg (.inr (by simp [Value.ownBlock])))
    replace HH := lh (HH.out.g hgg)
    replace HB0 := lh (HB0.out.g hgg)
    replace HB7 := lh (HB7.out.g hgg)
    replace HC := lh (HC.out.g hgg)
    replace HCHN := lh (HCHN.out.g hgg)
    replace HLED := lh (LedAt.g HLED.out hgg)
    clear hgg e6 e7 e8 e9
    go_upto_region 34 with (fail)
    obtain ⟨R, hR⟩ : ∃ R, R = pullF σ.bs σ.S T σ.f r X := ⟨_, rfl⟩
    have HR := lh hR
    clear hR
    go_cut [14] (fun s14 wx => ∃ q14, s14 = .pointer (some ⟨q14, 0, none⟩) ∧ w10.grownBy wx none)
    case first =>
     have HGD := lh (gdrew (gR w10 none))
     have hws : w10.drew.heap.size = w10.heap.size := rfl
     have HWS := lh hws
     clear hws
     replace HH := lh (HH.out.g (gdrew (gR _ none)))
     replace HB7 := lh (HB7.out.g (gdrew (gR _ none)))
     replace HCHN := lh (HCHN.out.g (gdrew (gR _ none)))
     replace HLED := lh (LedAt.g HLED.out (gdrew (gR _ none)))
     have TK := lh fun w (hSw : (fun wr => StoreAt wr { I with ch := .slice (some ⟨g5, 0, none⟩) 1 c5 } { σ with n := σ.n + 1, f := σ.f, F := T, L := ledSet σ.L r X, boosted := Bo } ∧             Blk wr q7 (LedC X (.slice (some ⟨gA, 0, none⟩) σ.bs.length dA) (.slice (some ⟨gB, 0, none⟩) σ.bs.length dB)) 133 ∧             LedAt wr (fun i => ¬ Far I i) σ.bs.length X (ledV X (.slice (some ⟨gA, 0, none⟩) σ.bs.length dA) (.slice (some ⟨gB, 0, none⟩) σ.bs.length dB)) ∧ ChainAt wr k1 k2 I.p I.tp I.tb (σ.n + 1) σ.f T r) w) => And.intro hSw.1.s0 <| And.intro hSw.1.s1 <| hSw.1.s2
     refine wp_region_last (fun wr => StoreAt wr { I with ch := .slice (some ⟨g5, 0, none⟩) 1 c5 } { σ with n := σ.n + 1, f := σ.f, F := T, L := ledSet σ.L r X, boosted := Bo } ∧             Blk wr q7 (LedC X (.slice (some ⟨gA, 0, none⟩) σ.bs.length dA) (.slice (some ⟨gB, 0, none⟩) σ.bs.length dB)) 133 ∧             LedAt wr (fun i => ¬ Far I i) σ.bs.length X (ledV X (.slice (some ⟨gA, 0, none⟩) σ.bs.length dA) (.slice (some ⟨gB, 0, none⟩) σ.bs.length dB)) ∧ ChainAt wr k1 k2 I.p I.tp I.tb (σ.n + 1) σ.f T r) 8 (by as_aux_lemma => kernel_rfl) (⟨HH.out, HB7.out, HLED.out, HCHN.out⟩) ?_
     intro hS
     generalize w10.drew = wd at HGD HWS hS ⊢
     refine tL 0 ?_
     simp only [zz]
     refine tL 1 ?_
     simp only [zz]
     refine tL 2 ?_
     simp only [zz]
     refine tL 3 ?_
     simp only [zz]
     refine wL 4 ?_ ?_ hS ?_; rotate_left; · intro w hSw; (refine exec_load_all (ty := 133) (hSw.2.1) ?_ _ Tryz.underlying133 rfl ?_ <;> first | exact ⟨_, rfl, rfl⟩ | (as_aux_lemma => kernel_rfl))
     simp only [zz]
     refine tL 5 ?_
     simp only [zz]
     refine aL [6, 7] (cL 6 (fun K hK => ?_) (cL 7 (fun K hK => ?_) nL))
     ·skip
      go_simp
      refine (pull_calls hS.2.2.2 HWF2.out hr hS.1.bal rfl HMAY.out hS.2.2.1 HBD.out).mono ?_
      rintro e wg ⟨rfl, hgg⟩
      rw [← HR.out]
      have hS2 : (fun wr => _) wg := And.intro (hS.1.g hgg) (And.intro (hS.2.1.g hgg) (And.intro (LedAt.g hS.2.2.1 hgg) (hS.2.2.2.g hgg)))
      try (replace HQ14 := lh (HQ14.out.g hgg))
      try (replace HGD := lh (g2 HGD.out hgg))
      clear hgg
      refine hK.out _ _ (.inl hS2) ?_
      replace hS := hS2; clear hK K hS2
      refine rL 7 fun K hK => ?_
      go_simp
      refine nmA1 ?_
      intro wm hmb hgg
      first
       | generalize hgm : wg.heap.size = gm at hmb ⊢
       | generalize hgm : wd.heap.size = gm at hmb ⊢
      have hcs : w10.heap.size ≤ gm := by rw [← hgm]; exact HGD.out.size
      have hS2 : (fun wr => _) wm := And.intro (hS.1.g hgg) (And.intro (hS.2.1.g hgg) (And.intro (LedAt.g hS.2.2.1 hgg) (hS.2.2.2.g hgg)))
      have HQ14 := lh hmb
      have HGM := lh hcs
      try (replace HGD := lh (g2 HGD.out hgg))
      clear hgg hmb hgm hcs
      refine hK.out _ _ (.inl hS2) ?_
      replace hS := hS2; clear hK K hS2
      try simp only [zz]
      refine rL 8 fun K hK => ?_
      refine step_store_blk HQ14.out rfl #[.bool R.b0, .bool R.b1, .bool R.b2, .bool R.b3, .int .i64 R.pe, .int .u64 R.pr, .int .i64 R.ce, .int .u64 R.cr, .int .i64 R.fe, .int .u64 R.fr] ⟨_, _, rfl, rfl, rfl⟩ (by as_aux_lemma => kernel_rfl) rfl (by simp [Value.oneCell']) ?_
      intro w16 t1 t3
      refine hK.out _ _ (.inr rfl) ?_
      clear hK K
      try simp only [zz]
      refine dL ?_ _
      have HFIN := lh (gnew HGD.out t3 HGM.out)
      clear t1 t3
      go_wp2_with fail
      go_meet
      exact ⟨gm, rfl, HFIN.out⟩
     ·skip
      go_simp
      refine nmA1 ?_
      intro wm hmb hgg
      first
       | generalize hgm : wg.heap.size = gm at hmb ⊢
       | generalize hgm : wd.heap.size = gm at hmb ⊢
      have hcs : w10.heap.size ≤ gm := by rw [← hgm]; exact HGD.out.size
      have hS2 : (fun wr => _) wm := And.intro (hS.1.g hgg) (And.intro (hS.2.1.g hgg) (And.intro (LedAt.g hS.2.2.1 hgg) (hS.2.2.2.g hgg)))
      have HQ14 := lh hmb
      have HGM := lh hcs
      try (replace HGD := lh (g2 HGD.out hgg))
      clear hgg hmb hgm hcs
      refine hK.out _ _ (.inl hS2) ?_
      replace hS := hS2; clear hK K hS2
      try simp only [zz]
      refine rL 6 fun K hK => ?_
      go_simp
      refine (pull_calls hS.2.2.2 HWF2.out hr hS.1.bal rfl HMAY.out hS.2.2.1 HBD.out).mono ?_
      rintro e wg ⟨rfl, hgg⟩
      rw [← HR.out]
      have hS2 : (fun wr => _) wg := And.intro (hS.1.g hgg) (And.intro (hS.2.1.g hgg) (And.intro (LedAt.g hS.2.2.1 hgg) (hS.2.2.2.g hgg)))
      try (replace HQ14 := lh (HQ14.out.g hgg))
      try (replace HGD := lh (g2 HGD.out hgg))
      clear hgg
      refine hK.out _ _ (.inl hS2) ?_
      replace hS := hS2; clear hK K hS2
      refine rL 8 fun K hK => ?_
      refine step_store_blk HQ14.out rfl #[.bool R.b0, .bool R.b1, .bool R.b2, .bool R.b3, .int .i64 R.pe, .int .u64 R.pr, .int .i64 R.ce, .int .u64 R.cr, .int .i64 R.fe, .int .u64 R.fr] ⟨_, _, rfl, rfl, rfl⟩ (by as_aux_lemma => kernel_rfl) rfl (by simp [Value.oneCell']) ?_
      intro w16 t1 t3
      refine hK.out _ _ (.inr rfl) ?_
      clear hK K
      try simp only [zz]
      refine dL ?_ _
      have HFIN := lh (gnew HGD.out t3 HGM.out)
      clear t1 t3
      go_wp2_with fail
      go_meet
      exact ⟨gm, rfl, HFIN.out⟩
    case rest =>
     obtain ⟨q14, rfl, hgg⟩ := hcut
     replace HROW := lh (HROW.out.kept hgg (.inr (by simp [Value.ownBlock])))
     replace HH := lh (HH.out.g hgg)
     replace HB0 := lh (HB0.out.g hgg)
     replace HC := lh (HC.out.g hgg)
     clear hgg HLED HB7 HCHN
     go_upto_region 35 with (fail)
     obtain ⟨c0, c1, c2, c3, c4⟩ := HB0.out.c5
     have d1 := HH.out.s1; have d5 := HH.out.s5
     have hS2 := HMAY.out.s2
     obtain ⟨Es, hEs⟩ : ∃ Es, Es = eOf s σ.S := ⟨_, rfl⟩
     obtain ⟨En, hEn⟩ : ∃ En, En = eOf σ.slot σ.S := ⟨_, rfl⟩
     have hnE : ¬ Es < En := by have h1 := HE.out; rw [← hEs, ← hEn] at h1; omega
     have HES := lh hEs
     have HEN := lh hEn
     clear hEs hEn
     go_region_held3 (fun w' => w'.cell? ⟨I.p, 1, none⟩ = some (.int .i64 σ.S) ∧ w'.cell? ⟨I.p, 5, none⟩ = some (.int .i64 σ.slot) ∧ w'.cell? ⟨qb, 2, none⟩ = some (.int .i64 s)) (go_keep)
      (first
        | (go_at_call 47
           refine (eof_calls _ _ _ (by omega) (by omega)).mono ?_
           rintro e wg ⟨rfl, rfl⟩
           first | rw [← HES.out] | rw [← HEN.out]))
     replace HROW := lh (HROW.out.kept (gdrew (gR _ none)) (.inr (by simp [Value.ownBlock])))
     replace HH := lh (HH.out.g (gdrew (gR _ none)))
     replace HC := lh (HC.out.g (gdrew (gR _ none)))
     generalize wc.drew = wd at HROW HH HC ⊢
     clear c0 c1 c2 c3 c4 d1 d5 HB0
     go_wp2_with fail
     go_ret
     have e : addS σ r q s qh x = { σ with n := σ.n + 1, f := σ.f, F := T, L := ledSet σ.L r X, boosted := Bo } := by unfold addS; rw [← HT.out, ← HX.out, ← HBO.out]
     exact ⟨g5, c5, rfl, by rw [e]; exact HH.out, HROW.out, HC.out⟩
end
end Go.Proofs.YtndfpmboanohcaaGreatDoor
