/- Contracts of (*store.Store).Apply at a tick, and at a block that is taken. -/
import Derived.Test.YtndfpmboanohcaaGreatDoorSto5
import Derived.Test.YtndfpmboanohcaaGreatDoorHd
namespace Go.Proofs.YtndfpmboanohcaaGreatDoor
set_option maxRecDepth 100000
open Go.RowKit Go.Maps SkipPure
def evCells (k s r q bs : Int) (vs ps : Value) : Array Value :=
 #[.int .i64 k, .int .i64 s, .int .u64 r, .int .u64 q, .int .i64 bs, vs, ps,
  .int .i64 0, .int .u64 0, .int .i64 0, .int .u64 0, .int .i64 0, .int .u64 0, .slice none 0 0,
  .int .i64 0, .int .u64 0, .int .i64 0, .int .u64 0, .int .i64 0, .int .u64 0, .slice none 0 0,
  .int .i64 0, .int .u64 0, .int .i64 0, .int .u64 0, .int .i64 0, .int .u64 0, .slice none 0 0]
def evV (k s r q bs : Int) (vs ps : Value) : Value := .agg (evCells k s r q bs vs ps)
def evTick (s : Int) : Value := evV 0 s 0 0 0 (.slice none 0 0) (.slice none 0 0)
def evAdd (r q s : Int) : Value := evV 1 0 r q s (.slice none 0 0) (.slice none 0 0)
section
variable {w w' : World} {I : Ids} {σ : St}
theorem StoreAt.chs (h : StoreAt w I σ) (v : Value) : StoreAt (w.setCell ⟨I.p, 13, none⟩ v) { I with ch := v } σ := by
 have t1 := h.blk.set 13 v
 simp only [List.setIfInBounds_toArray, List.set_cons_zero, List.set_cons_succ] at t1
 exact h.put (I' := { I with ch := v }) (σ' := σ) (gset w I.p 13 v) t1 rfl rfl
theorem ownsRow_base {w : World} {base base' : Nat} {e : TypeId} {size n : Nat} {v : Value} {xs : List Value} (h : w.ownsRow base' e size v n xs) (hb : base ≤ base') : w.ownsRow base e size v n xs := by
 obtain ⟨h1, h2⟩ := h
 refine ⟨h1, ?_⟩
 rcases h2 with h2 | ⟨g, cap, cur, rfl, h3, h4⟩
 ·exact .inl h2
 ·exact .inr ⟨g, cap, cur, rfl, Nat.le_trans hb h3, h4⟩
set_option maxHeartbeats 1000000 in
theorem apply_tick (h : StoreAt w I σ) (s : Int) :
  Calls Tryz.prog 20 #[.pointer (some ⟨I.p, 0, none⟩), evTick s] w fun e w' => e = .returned (.tuple #[.slice none 0 0, errV (tickE σ s)]) ∧ StoreAt w' { I with ch := .slice none 0 0 } (tickF σ s) ∧ Chg (Mut I) w w' := by
 have HH := lh h
 have hpl := h.blk.lt
 clear h
 obtain ⟨E, hE⟩ : ∃ E, E = errV (tickE σ s) := ⟨_, rfl⟩
 rw [← hE]
 have HE := lh hE
 clear hE
 unfold evTick evV
 go_enter Tryz.func20, Tryz.ntmps20
 go_upto_region 1 with (fail)
 refine nmC1 ?_
 intro W b0 hz hg
 obtain ⟨q, hq_q⟩ : ∃ q, q = w.heap.size := ⟨_, rfl⟩
 rw [← hq_q] at b0 hz hpl ⊢
 have HQ_q := lh hq_q
 clear hq_q
 change Blk W q (evCells 0 s 0 0 0 (.slice none 0 0) (.slice none 0 0)) 68 at b0
 have HB0 := lh b0
 have HG := lh hg
 clear b0 hg
 replace HH := lh (HH.out.g HG.out)
 have c13 := HH.out.s13
 have f13 := HH.out.blk.fr 13
 go_upto_region 2 with (fail)
 have hst := HH.out.chs (.slice none 0 0)
 have hgs := gset W I.p 13 (.slice none 0 0)
 have hc := (Chg.of (S := Mut I) HG.out).trans (Chg.one hgs (.inl rfl))
 replace HB0 := lh (HB0.out.kept hgs (by simp; omega))
 generalize W.setCell ⟨I.p, 13, none⟩ (.slice none 0 0) = W2 at hst hc HB0 ⊢
 clear HH HG hgs c13 f13 hz
 have HH := lh hst
 have HC := lh hc
 clear hst hc
 have d0 : W2.cell? ⟨q, 0, none⟩ = some (.int .i64 0) := HB0.out.at 0
 have d1 : W2.cell? ⟨q, 1, none⟩ = some (.int .i64 s) := HB0.out.at 1
 go_wp2_with fail
 refine (tick_calls HH.out s).mono ?_
 rintro e w3 ⟨rfl, hst, hc⟩
 rw [← HE.out]
 have hcc := HC.out.trans (S := Mut I) hc
 have c13 := hst.s13
 have HH2 := lh hst
 have HC2 := lh hcc
 clear hst hcc hc d0 d1
 go_wp2
 go_ret2
 exact ⟨rfl, HH2.out, HC2.out⟩
set_option maxHeartbeats 2000000 in
theorem apply_add (h : StoreAt w I σ) (hw : StWf σ) {r q s qq qs qh : Int} {x : Led} (hr : inU r) (hr0 : r ≠ 0) (hs : s ≤ σ.slot) (hgone : ¬ σ.gone r) (hF : σ.F q = some (qq, qs, qh)) (hn : σ.F r = none)
  (hqs : qs < s) (hsz : σ.n < 1024) (hqh : qh < 1000000) (hL : σ.L q = some x) (hj : (advF σ.bs σ.S (tset σ.F r (q, s, qh + 1)) σ.f r x s).j.ce ≤ σ.je) (hf : (advF σ.bs σ.S (tset σ.F r (q, s, qh + 1)) σ.f r x s).j.fe ≤ σ.fe) (hE : ¬ eOf s σ.S < eOf σ.slot σ.S) :
  Calls Tryz.prog 20 #[.pointer (some ⟨I.p, 0, none⟩), evAdd r q s] w fun e w' => ∃ g c, e = .returned (.tuple #[.slice (some ⟨g, 0, none⟩) 1 c, .nilIface]) ∧ StoreAt w' { I with ch := .slice (some ⟨g, 0, none⟩) 1 c } (addS σ r q s qh x) ∧
   w'.ownsRow w.heap.size 178 6 (.slice (some ⟨g, 0, none⟩) 1 c) 1 (addedRow r q) ∧ Chg (Mut I) w w' := by
 have HH := lh h
 have hpl := h.blk.lt
 clear h
 have HW := lh hw
 have HR := lh hr
 have HR0 := lh hr0
 have HS := lh hs
 have HGONE := lh hgone
 have HFQ := lh hF
 have HN := lh hn
 have HQS := lh hqs
 have HSZ := lh hsz
 have HQH := lh hqh
 have HL := lh hL
 have HJ := lh hj
 have HFF := lh hf
 have HE := lh hE
 clear hw hr hr0 hs hgone hF hn hqs hsz hqh hL hj hf hE
 unfold evAdd evV
 go_enter Tryz.func20, Tryz.ntmps20
 go_upto_region 1 with (fail)
 refine nmC1 ?_
 intro W b0 hz hg
 obtain ⟨qb, hq_qb⟩ : ∃ q, q = w.heap.size := ⟨_, rfl⟩
 rw [← hq_qb] at b0 hz hpl ⊢
 have HQ_qb := lh hq_qb
 clear hq_qb
 change Blk W qb (evCells 1 0 r q s (.slice none 0 0) (.slice none 0 0)) 68 at b0
 have hqw := Nat.le_of_eq HQ_qb.out.symm
 have HB0 := lh b0
 have HG := lh hg
 clear b0 hg
 replace HH := lh (HH.out.g HG.out)
 have c13 := HH.out.s13
 have f13 := HH.out.blk.fr 13
 go_upto_region 2 with (fail)
 have hst := HH.out.chs (.slice none 0 0)
 have hgs := gset W I.p 13 (.slice none 0 0)
 have hc := (Chg.of (S := Mut I) HG.out).trans (Chg.one hgs (.inl rfl))
 replace HB0 := lh (HB0.out.kept hgs (by simp; omega))
 generalize W.setCell ⟨I.p, 13, none⟩ (.slice none 0 0) = W2 at hst hc HB0 ⊢
 clear HH HG hgs c13 f13 hz
 have HH := lh hst
 have HC := lh hc
 clear hst hc
 have d0 : W2.cell? ⟨qb, 0, none⟩ = some (.int .i64 1) := HB0.out.at 0
 have d2 : W2.cell? ⟨qb, 2, none⟩ = some (.int .u64 r) := HB0.out.at 2
 have d3 : W2.cell? ⟨qb, 3, none⟩ = some (.int .u64 q) := HB0.out.at 3
 have d4 : W2.cell? ⟨qb, 4, none⟩ = some (.int .i64 s) := HB0.out.at 4
 have d5 : W2.cell? ⟨qb, 5, none⟩ = some (.slice none 0 0) := HB0.out.at 5
 have d6 : W2.cell? ⟨qb, 6, none⟩ = some (.slice none 0 0) := HB0.out.at 6
 go_wp2_with fail
 refine (propose_calls HH.out HW.out rfl HR.out HR0.out HS.out HGONE.out HFQ.out HN.out HQS.out HSZ.out HQH.out HL.out HJ.out HFF.out (by have := HE.out; omega)).mono ?_
 rintro e w3 ⟨g, c, rfl, hst, hrow, hc⟩
 have hcc := HC.out.trans (S := Mut I) hc
 have hrow2 := ownsRow_base hrow HC.out.size
 have c13 := hst.s13
 have HH2 := lh hst
 have HC2 := lh hcc
 have HROW := lh hrow2
 clear hcc hrow2
 clear hst hc hrow d0 d2 d3 d4 d5 d6
 go_wp2
 go_ret2
 exact ⟨g, c, rfl, HH2.out, HROW.out, HC2.out⟩
end
section
variable {w w' : World} {I : Ids} {σ : St} {J : AIds} {α : Arr}
def EvBox (w : World) (q : Nat) (cs : Array Value) : Prop := Blk w q cs 68
set_option maxHeartbeats 2000000 in
theorem feed_tick (h : StoreAt w I σ) (ha : ArrAt w J I.p α) (hx : ∀ i, AOwn J i → I.ex i) (s : Int) :
  Calls Tryz.prog 157 #[.pointer (some ⟨J.q, 0, none⟩), evTick s] w fun e w' => e = .returned (errV (tickE σ s)) ∧ StoreAt w' { I with ch := .slice none 0 0 } (tickF σ s) ∧ ArrAt w' J I.p α ∧ Chg (Mut I) w w' := by
 have HH := lh h
 have HA := lh ha
 have HX := lh hx
 have hpl := h.blk.lt
 have hql := ha.blk.lt
 clear h ha hx
 obtain ⟨E, hE⟩ : ∃ E, E = errV (tickE σ s) := ⟨_, rfl⟩
 rw [← hE]
 have HE := lh hE
 clear hE
 unfold evTick evV
 go_enter Tryz.func157, Tryz.ntmps157
 go_upto_region 1 with (fail)
 refine nmC1 ?_
 intro W b0 hz hg
 obtain ⟨q, hq_q⟩ : ∃ q, q = w.heap.size := ⟨_, rfl⟩
 rw [← hq_q] at b0 hz hpl hql ⊢
 have HQ_q := lh hq_q
 clear hq_q
 change EvBox W q (evCells 0 s 0 0 0 (.slice none 0 0) (.slice none 0 0)) at b0
 have HB0 := lh b0
 have HG := lh hg
 clear b0 hg
 replace HH := lh (HH.out.g HG.out)
 replace HA := lh (HA.out.kept0 HG.out)
 have TK := lh fun w (hSw : (fun wr => StoreAt wr I σ ∧ ArrAt wr J I.p α ∧ EvBox wr q (evCells 0 s 0 0 0 (.slice none 0 0) (.slice none 0 0))) w) => show w.cell? ⟨J.q, 0, none⟩ = some (.pointer (some ⟨I.p, 0, none⟩)) from hSw.2.1.blk.at 0
 refine wp_region_late (fun wr => StoreAt wr I σ ∧ ArrAt wr J I.p α ∧ EvBox wr q (evCells 0 s 0 0 0 (.slice none 0 0) (.slice none 0 0))) [5] (by as_aux_lemma => kernel_rfl) ?_
 have hgd := gdrew (gR W none)
 have hS : (fun wr => StoreAt wr I σ ∧ ArrAt wr J I.p α ∧ EvBox wr q (evCells 0 s 0 0 0 (.slice none 0 0) (.slice none 0 0))) W.drew := ⟨HH.out.g hgd, HA.out.kept0 hgd, Blk.g HB0.out hgd⟩
 replace HG := lh (g2 HG.out hgd)
 clear hgd HH HA HB0
 generalize W.drew = w2 at HG hS ⊢
 refine pM 0 ?_
 simp only [zz]
 refine pM 1 ?_
 simp only [zz]
 refine pM 2 ?_
 simp only [zz]
 refine tM 3 ?_
 simp only [zz]
 refine wM 4 ?_ ?_ hS ?_; rotate_left; · intro w hSw; (refine exec_load_blk (ty := 68) (off := 0) (hSw.2.2) ?_ _ Tryz.underlying68 rfl (evCells 0 s 0 0 0 (.slice none 0 0) (.slice none 0 0)) ?_ ?_ <;> first | exact ⟨_, rfl, rfl⟩ | rfl | (as_aux_lemma => kernel_rfl))
 simp only [zz]
 refine rM 5 fun K hK => ?_
 go_simp
 refine (apply_tick hS.1 s).mono ?_
 rintro e w3 ⟨rfl, hst, hc⟩
 have ha3 := hS.2.1.chg hc (hS.1.exd _ (HX.out _ (.inl rfl))) (hS.1.exd _ (HX.out _ (.inr rfl)))
 rw [← HE.out]
 replace HG := lh ((Chg.of HG.out).trans hc)
 have HH := lh hst
 have HA := lh ha3
 clear hst ha3
 clear hc
 refine hK.out _ _ (.inr (by decide)) ?_
 clear hK K
 try simp only [zz]
 refine pM 6 ?_
 simp only [zz]
 refine pM 7 ?_
 simp only [zz]
 refine pM 8 ?_
 simp only [zz]
 refine pM 9 ?_
 simp only [zz]
 refine pM 10 ?_
 simp only [zz]
 refine dM ?_ _
 go_wp2_with fail
 refine wp_loop_rounds 1 ?_
 rw [rounds_succ]
 go_wp2
 go_ret
 exact ⟨rfl, HH.out, HA.out, HG.out⟩
theorem Ints.lt {kd : IntKind} {w : World} {ad : Addr} {xs : List Int} (h : Ints kd w (some ad) xs) (hn : 0 < xs.length) : ad.block < w.heap.size := by
 obtain ⟨a, e, hc⟩ := h 0 hn
 cases e
 have := World.block_lt_of_cell? w _ hc
 simpa [Addr.add] using this
theorem Ints.one {kd : IntKind} {w : World} {g : Nat} {x : Int} {T : TypeId} (h : Blk w g #[.int kd x] T) : Ints kd w (some ⟨g, 0, none⟩) [x] := fun i hi => by
 have e : i = 0 := by simp at hi; omega
 subst e
 exact ⟨_, rfl, h.at 0⟩
theorem wf_one (x : Int) (h : (Lit.int .i64 x).wf = true) : ∀ i, i < [x].length → (Lit.int .i64 ([x].getD i 0)).wf = true := fun i hi => by
 have e : i = 0 := by simp at hi; omega
 subst e
 exact h
theorem StoreAt.reex (h : StoreAt w I σ) (hN : 0 < σ.bs.length) (hc : Chg I.ex w w') (ex' : Nat → Prop) (hx : ∀ i, ex' i → I.ex i ∨ w.heap.size ≤ i) (hl : ∀ i, ex' i → i < w'.heap.size) : StoreAt w' { I with ex := ex' } σ := by
 have hm : ∀ i, Mut I i → i < w.heap.size := fun i hi => h.lt hi
 have h2 := h.exch hc (fun i hi => hi)
 obtain ⟨g1, g2, g3, g4, g5, g6, g7, g8, g9, g10⟩ := h2
 obtain ⟨n, js, G, l1, l2, l3, l4, l5⟩ := h.led
 refine ⟨g1, g2, g3, g4, ?_, g6, g7, ?_, hl, ?_⟩
 ·refine ⟨n, js, G, hc.raw l1 (fun e => h.exd _ e (.inr (.inr (.inr (.inr (.inl rfl)))))), l2, l3, l4, fun r => ⟨(l5 r).1, fun x hx' => ?_⟩⟩
  obtain ⟨v, hv, hled⟩ := (l5 r).2 x hx'
  refine ⟨v, hv, (LedAt.chg (hled.here hN) hc (fun i hi e => hi.1 (.inr e))).imp (fun i hi hf => ?_)⟩
  rcases hf with hf | hf
  ·exact hi.1 (.inl hf)
  ·rcases hx i hf with h3 | h3
   ·exact hi.1 (.inr h3)
   ·have := hi.2; omega
 ·intro ad had hf
  rcases hf with hf | hf
  ·exact h.apart ad had (.inl hf)
  ·rcases hx _ hf with h3 | h3
   ·exact h.apart ad had (.inr h3)
   ·have hb := h.bal
    rw [had] at hb
    have := Ints.lt hb hN
    omega
 ·intro i hi hmm
  rcases hx i hi with h3 | h3
  ·exact h.exd i h3 hmm
  ·have := hm i hmm; omega
structure Addable (σ : St) (r q s qq qs qh : Int) (x : Led) : Prop where
 hr : inU r
 hr0 : r ≠ 0
 hs : s ≤ σ.slot
 hgone : ¬ σ.gone r
 hF : σ.F q = some (qq, qs, qh)
 hn : σ.F r = none
 hqs : qs < s
 hsz : σ.n < 1024
 hqh : qh < 1000000
 hL : σ.L q = some x
 hj : (advF σ.bs σ.S (tset σ.F r (q, s, qh + 1)) σ.f r x s).j.ce ≤ σ.je
 hf : (advF σ.bs σ.S (tset σ.F r (q, s, qh + 1)) σ.f r x s).j.fe ≤ σ.fe
 hE : ¬ eOf s σ.S < eOf σ.slot σ.S
theorem apply_adds (h : StoreAt w I σ) (hw : StWf σ) {r q s qq qs qh : Int} {x : Led} (hA : Addable σ r q s qq qs qh x) :
  Calls Tryz.prog 20 #[.pointer (some ⟨I.p, 0, none⟩), evAdd r q s] w fun e w' => ∃ g c, e = .returned (.tuple #[.slice (some ⟨g, 0, none⟩) 1 c, .nilIface]) ∧ StoreAt w' { I with ch := .slice (some ⟨g, 0, none⟩) 1 c } (addS σ r q s qh x) ∧
   w'.ownsRow w.heap.size 178 6 (.slice (some ⟨g, 0, none⟩) 1 c) 1 (addedRow r q) ∧ Chg (Mut I) w w' :=
 apply_add h hw hA.hr hA.hr0 hA.hs hA.hgone hA.hF hA.hn hA.hqs hA.hsz hA.hqh hA.hL hA.hj hA.hf hA.hE
theorem info_nd : (Tryz.prog.info? 150).map (fun i => (i.zero, i.size, i.bytes)) = some (some (.agg #[.int .u64 0, .int .i64 0, .int .u64 0, .int .u64 0, .int .u64 0]), 5, 40) := by kernel_rfl
theorem elem_nd : ∃ i, Elem Tryz.prog 150 i (.agg #[.int .u64 0, .int .i64 0, .int .u64 0, .int .u64 0, .int .u64 0]) 5 40 := info_parts info_nd
def addA (α : Arr) (r q : Int) : Arr := { α with n := α.n + 1, X := nset α.X α.n ⟨r, fnd α.X q α.n, 0, 0, 0⟩ }
set_option maxHeartbeats 8000000 in
theorem feed_add (h : StoreAt w I σ) (hw : StWf σ) (ha : ArrAt w J I.p α) (hx : I.ex = AOwn J) (hn : α.n ≤ 2000) {r q s qq qs qh : Int} {x : Led} (hA : Addable σ r q s qq qs qh x) :
  Calls Tryz.prog 157 #[.pointer (some ⟨J.q, 0, none⟩), evAdd r q s] w fun e w' => ∃ ch g c, e = .returned .nilIface ∧ StoreAt w' { I with ch := ch, ex := AOwn { J with g := g, c := c } } (addS σ r q s qh x) ∧ ArrAt w' { J with g := g, c := c } I.p (addA α r q) ∧
   Chg (fun i => Mut I i ∨ AOwn J i) w w' ∧ (g = J.g ∨ w.heap.size ≤ g) := by
 have HH := lh h
 have HA := lh ha
 have HX := lh hx
 have HW := lh hw
 have HAD := lh hA
 have hpl := h.blk.lt
 have hql := ha.blk.lt
 clear h ha hx hw hA
 unfold evAdd evV
 go_enter Tryz.func157, Tryz.ntmps157
 go_upto_region 1 with (fail)
 refine nmC1 ?_
 intro W b0 hz hg
 obtain ⟨qb, hq_qb⟩ : ∃ q, q = w.heap.size := ⟨_, rfl⟩
 rw [← hq_qb] at b0 hz hpl hql ⊢
 have HQ_qb := lh hq_qb
 clear hq_qb
 change EvBox W qb (evCells 1 0 r q s (.slice none 0 0) (.slice none 0 0)) at b0
 have HB0 := lh b0
 have HG := lh hg
 clear b0 hg
 replace HH := lh (HH.out.g HG.out)
 replace HA := lh (HA.out.kept0 HG.out)
 have TK := lh fun w (hSw : (fun wr => StoreAt wr I σ ∧ ArrAt wr J I.p α ∧ EvBox wr qb (evCells 1 0 r q s (.slice none 0 0) (.slice none 0 0))) w) => show w.cell? ⟨J.q, 0, none⟩ = some (.pointer (some ⟨I.p, 0, none⟩)) from hSw.2.1.blk.at 0
 refine wp_region_late (fun wr => StoreAt wr I σ ∧ ArrAt wr J I.p α ∧ EvBox wr qb (evCells 1 0 r q s (.slice none 0 0) (.slice none 0 0))) [5] (by as_aux_lemma => kernel_rfl) ?_
 have hgd := gdrew (gR W none)
 have hS : (fun wr => StoreAt wr I σ ∧ ArrAt wr J I.p α ∧ EvBox wr qb (evCells 1 0 r q s (.slice none 0 0) (.slice none 0 0))) W.drew := ⟨HH.out.g hgd, HA.out.kept0 hgd, Blk.g HB0.out hgd⟩
 replace HG := lh (g2 HG.out hgd)
 clear hgd HH HA HB0
 generalize W.drew = w2 at HG hS ⊢
 refine pM 0 ?_
 simp only [zz]
 refine pM 1 ?_
 simp only [zz]
 refine pM 2 ?_
 simp only [zz]
 refine tM 3 ?_
 simp only [zz]
 refine wM 4 ?_ ?_ hS ?_; rotate_left; · intro w hSw; (refine exec_load_all (ty := 68) (hSw.2.2) ?_ _ Tryz.underlying68 rfl ?_ <;> first | exact ⟨_, rfl, rfl⟩ | (as_aux_lemma => kernel_rfl))
 simp only [zz]
 refine rM 5 fun K hK => ?_
 go_simp
 refine (apply_adds hS.1 HW.out HAD.out).mono ?_
 rintro e w3 ⟨g, c, rfl, hst, hrow, hc⟩
 have hexq : ∀ i, AOwn J i → ¬ Mut I i := fun i hi => hS.1.exd i (by rw [HX.out]; exact hi)
 have ha3 := hS.2.1.chg hc (hexq _ (.inl rfl)) (hexq _ (.inr rfl))
 have hcc := (Chg.of (S := fun i => Mut I i ∨ AOwn J i) HG.out).trans (hc.mono (fun i hi => .inl hi))
 have hgw := hrow.lt g rfl
 clear hexq HG
 have HH := lh hst
 have HA := lh ha3
 have HROW := lh hrow
 have HG := lh hcc
 clear hst ha3 hrow hcc
 clear hc
 refine hK.out _ _ (.inr (by decide)) ?_
 clear hK K
 try simp only [zz]
 refine pM 6 ?_
 simp only [zz]
 refine pM 7 ?_
 simp only [zz]
 refine pM 8 ?_
 simp only [zz]
 refine pM 9 ?_
 simp only [zz]
 refine pM 10 ?_
 simp only [zz]
 refine dM ?_ _
 have r0 : w3.cell? ⟨g, 0, none⟩ = some (.int .i64 0) := HROW.out.cells (g := g) rfl 0 _ rfl
 have r1 : w3.cell? ⟨g, 1, none⟩ = some (.int .u64 r) := HROW.out.cells (g := g) rfl 1 _ rfl
 have r2 : w3.cell? ⟨g, 2, none⟩ = some (.int .u64 q) := HROW.out.cells (g := g) rfl 2 _ rfl
 have r3 : w3.cell? ⟨g, 3, none⟩ = some (.int .i64 0) := HROW.out.cells (g := g) rfl 3 _ rfl
 have r4 : w3.cell? ⟨g, 4, none⟩ = some (.int .u64 0) := HROW.out.cells (g := g) rfl 4 _ rfl
 have r5 : w3.cell? ⟨g, 5, none⟩ = some (.bool false) := HROW.out.cells (g := g) rfl 5 _ rfl
 go_wp2_with fail
 refine wp_loop_rounds 2 ?_
 rw [rounds_succ]
 go_upto_region 5 with (fail)
 obtain ⟨σ2, hσ⟩ : ∃ σ2, σ2 = addS σ r q s qh x := ⟨_, rfl⟩
 have hm2 : MayBe σ2.bs σ2.S σ2.B := by rw [hσ]; exact HW.out.may
 rw [← hσ] at HH
 have HS2 := lh hσ
 have HM2 := lh hm2
 clear hσ hm2 r0 r1 r2 r3 r4 r5
 refine nmC1 ?_
 intro W4 b4 hz4 hg4
 have hql := HA.out.blk.lt
 have hpl3 := HH.out.blk.lt
 have hgl3 := HA.out.row.lt
 obtain ⟨qc, hq_qc⟩ : ∃ q, q = w3.heap.size := ⟨_, rfl⟩
 rw [← hq_qc] at b4 hz4 hgw hql hpl3 hgl3 ⊢
 have HQ_qc := lh hq_qc
 clear hq_qc
 have HQC := lh b4
 replace HH := lh (HH.out.g hg4)
 replace HA := lh (HA.out.kept0 hg4)
 replace HG := lh (HG.out.trans (Chg.of hg4))
 clear b4 hg4 hz4
 have TK := lh fun w (hSw : (fun wr => StoreAt wr { I with ch := .slice (some ⟨g, 0, none⟩) 1 c } σ2 ∧ ArrAt wr J I.p α ∧ Blk wr qc #[.int .i64 0, .int .u64 r, .int .u64 q, .int .i64 0, .int .u64 0, .bool false] 178) w) => And.intro (show w.cell? ⟨J.q, 0, none⟩ = some (.pointer (some ⟨I.p, 0, none⟩)) from hSw.2.1.blk.at 0) <| And.intro hSw.1.s0 <| And.intro hSw.1.s1 <| And.intro hSw.1.s2 <| show w.cell? ⟨qc, 3, none⟩ = some (.int .i64 0) from hSw.2.2.at 3
 refine wp_region_late (fun wr => StoreAt wr { I with ch := .slice (some ⟨g, 0, none⟩) 1 c } σ2 ∧ ArrAt wr J I.p α ∧ Blk wr qc #[.int .i64 0, .int .u64 r, .int .u64 q, .int .i64 0, .int .u64 0, .bool false] 178) [] (by as_aux_lemma => kernel_rfl) ?_
 have hgd := gdrew (gR W4 none)
 have hS : (fun wr => StoreAt wr { I with ch := .slice (some ⟨g, 0, none⟩) 1 c } σ2 ∧ ArrAt wr J I.p α ∧ Blk wr qc #[.int .i64 0, .int .u64 r, .int .u64 q, .int .i64 0, .int .u64 0, .bool false] 178) W4.drew := ⟨HH.out.g hgd, HA.out.kept0 hgd, HQC.out.g hgd⟩
 replace HG := lh (HG.out.trans (Chg.of hgd))
 clear hgd HH HA HQC
 generalize W4.drew = w5 at HG hS ⊢
 refine pM 0 ?_
 simp only [zz]
 refine pM 1 ?_
 simp only [zz]
 refine pM 2 ?_
 simp only [zz]
 refine pM 7 ?_
 simp only [zz]
 refine tM 3 ?_
 simp only [zz]
 refine pM 4 ?_
 simp only [zz]
 refine pM 5 ?_
 simp only [zz]
 refine tM 6 ?_
 simp only [zz]
 refine tM 8 ?_
 simp only [zz]
 refine rM 9 fun K hK => ?_
 go_simp
 refine nmA1 ?_
 intro w6 b6 hg6
 generalize w5.heap.size = gm at b6 ⊢
 have HB6 := lh b6
 have hS2 : (fun wr => _) w6 := And.intro (hS.1.g hg6) (And.intro (hS.2.1.kept0 hg6) (hS.2.2.g hg6))
 replace HG := lh (HG.out.trans (Chg.of hg6))
 clear hg6 b6
 refine hK.out _ _ (.inl (fun _ => hS2)) ?_
 replace hS := hS2; clear hK K hS2
 try simp only [zz]
 refine rM 10 fun K hK => ?_
 go_simp
 refine (sum_calls (ks := [0]) hS.1.bal rfl (Ints.one HB6.out) rfl HM2.out.bal (by simp) (wf_one 0 (by rfl))).mono ?_
 rintro e w7 ⟨rfl, hg7⟩
 have hst := hS.1.g hg7
 have hat := hS.2.1.kept0 hg7
 have hqc := hS.2.2.g hg7
 replace HG := lh (HG.out.trans (Chg.of hg7))
 have hS2 : (fun wr => _) w7 := And.intro hst (And.intro hat hqc)
 generalize sumF σ2.bs [0] = sm
 clear hg7 HB6 hst hat hqc
 refine hK.out _ _ (.inl (fun _ => hS2)) ?_
 replace hS := hS2; clear hK K hS2
 try simp only [zz]
 refine pM 11 ?_
 simp only [zz]
 refine dM ?_ _
 have hst := hS.1
 have hat := hS.2.1
 have hqc := hS.2.2
 clear hS
 have HH := lh hst
 have HA := lh hat
 have HQC := lh hqc
 clear hst hat hqc
 have r0 : w7.cell? ⟨qc, 0, none⟩ = some (.int .i64 0) := HQC.out.at 0
 go_upto_region 9 with (fail)
 clear r0
 have TK := lh fun w (hSw : (fun wr => Blk wr J.q #[.pointer (some ⟨I.p, 0, none⟩), .slice (some ⟨J.g, 0, none⟩) α.n J.c, .int .u64 α.b] 110 ∧ Blk wr qc #[.int .i64 0, .int .u64 r, .int .u64 q, .int .i64 0, .int .u64 0, .bool false] 178) w) => And.intro (show w.cell? ⟨J.q, 1, none⟩ = some (.slice (some ⟨J.g, 0, none⟩) α.n J.c) from hSw.1.at 1) <| And.intro (show w.cell? ⟨qc, 1, none⟩ = some (.int .u64 r) from hSw.2.at 1) <| show w.cell? ⟨qc, 2, none⟩ = some (.int .u64 q) from hSw.2.at 2
 refine wp_region_late (fun wr => Blk wr J.q #[.pointer (some ⟨I.p, 0, none⟩), .slice (some ⟨J.g, 0, none⟩) α.n J.c, .int .u64 α.b] 110 ∧ Blk wr qc #[.int .i64 0, .int .u64 r, .int .u64 q, .int .i64 0, .int .u64 0, .bool false] 178) [16] (by as_aux_lemma => kernel_rfl) ?_
 have hgd := gdrew (gR w7 none)
 have hS : (fun wr => Blk wr J.q #[.pointer (some ⟨I.p, 0, none⟩), .slice (some ⟨J.g, 0, none⟩) α.n J.c, .int .u64 α.b] 110 ∧ Blk wr qc #[.int .i64 0, .int .u64 r, .int .u64 q, .int .i64 0, .int .u64 0, .bool false] 178) w7.drew := ⟨HA.out.blk.g hgd, HQC.out.g hgd⟩
 replace HH := lh (HH.out.g hgd)
 replace HA := lh (HA.out.kept0 hgd)
 replace HG := lh (HG.out.trans (Chg.of hgd))
 clear hgd HQC
 obtain ⟨i0, hi0⟩ := elem_nd
 have HI := lh hi0
 clear hi0
 generalize w7.drew = w8 at HH HA HG hS ⊢
 refine pM 0 ?_
 simp only [zz]
 refine pM 1 ?_
 simp only [zz]
 refine pM 2 ?_
 simp only [zz]
 refine pM 3 ?_
 simp only [zz]
 refine pM 5 ?_
 simp only [zz]
 refine pM 7 ?_
 simp only [zz]
 refine pM 8 ?_
 simp only [zz]
 refine tM 4 ?_
 simp only [zz]
 refine tM 6 ?_
 simp only [zz]
 refine tM 9 ?_
 simp only [zz]
 refine rM 10 fun K hK => ?_
 go_simp
 refine (find_calls HA.out q).mono ?_
 rintro e w9 ⟨rfl, hg⟩
 have hS2 : (fun wr => _) w9 := And.intro (hS.1.g hg) (hS.2.g hg)
 replace HH := lh (HH.out.g hg)
 replace HA := lh (HA.out.kept0 hg)
 replace HG := lh (HG.out.trans (Chg.of hg))
 clear hg
 obtain ⟨at_, hat⟩ : ∃ at_, at_ = fnd α.X q α.n := ⟨_, rfl⟩
 rw [← hat]
 have HAT := lh hat
 clear hat
 refine hK.out _ _ (.inl (fun _ => hS2)) ?_
 replace hS := hS2; clear hK K hS2
 try simp only [zz]
 refine pM 11 ?_
 simp only [zz]
 refine rM 12 fun K hK => ?_
 go_simp
 refine nmA1 ?_
 intro w10 b10 hg
 generalize w9.heap.size = gm at b10 ⊢
 have hS2 : (fun wr => _) w10 := And.intro (hS.1.g hg) (hS.2.g hg)
 replace HH := lh (HH.out.g hg)
 replace HA := lh (HA.out.kept0 hg)
 replace HG := lh (HG.out.trans (Chg.of hg))
 have HB10 := lh b10
 clear hg b10
 refine hK.out _ _ (.inl (fun _ => hS2)) ?_
 replace hS := hS2; clear hK K hS2
 try simp only [zz]
 refine rM 13 fun K hK => ?_
 refine wp_append_lies _ _ _ 108 (by rfl) 0 150 i0 (.agg #[.int .u64 0, .int .i64 0, .int .u64 0, .int .u64 0, .int .u64 0]) 5 40 Tryz.underlying108 HI.out.1 HI.out.2.1 HI.out.2.2.1 HI.out.2.2.2 rfl (by decide) (.slice (some ⟨J.g, 0, none⟩) α.n J.c) α.n (rowsOf α.X α.n) (by rfl) (HA.out.row.owns (Nat.zero_le _)) ⟨gm, 0, none⟩ 1 1
  [.int .u64 r, .int .i64 at_, .int .u64 0, .int .u64 0, .int .u64 0] (by rfl) (by rfl) (World.news_of_block HB10.out) (by simp [Value.oneCell']) (by omega) (by unfold maxLen; omega) (by omega) (Nat.zero_le _) _ rfl ?_
 intro g1 c1 w11 hown hg11 hat11 hlt11
 have hne := HA.out.ne
 have hS2 : (fun wr => _) w11 := And.intro (hS.1.kept hg11 (by simpa [Value.ownBlock] using fun e => hne e.symm)) (hS.2.kept hg11 (by simp [Value.ownBlock]; omega))
 have hrow : rowsOf α.X α.n ++ [.int .u64 r, .int .i64 at_, .int .u64 0, .int .u64 0, .int .u64 0] = rowsOf (nset α.X α.n ⟨r, at_, 0, 0, 0⟩) (α.n + 1) := by
  rw [rowsOf_succ, rowsOf_congr α.n (X := nset α.X α.n ⟨r, at_, 0, 0, 0⟩) (Y := α.X) (fun i hi => by unfold nset; rw [if_neg (by omega)])]
  simp [nset]
 rw [hrow] at hown
 have HN11 := lh (NAt.of_owns hown)
 have hsz := w10.heap.size
 have hg1 : g1 = J.g ∨ w10.heap.size ≤ g1 := by
  rcases hat11 with h | h
  ·left; simpa [Value.ownBlock] using h.symm
  ·right; omega
 have HG1 := lh hg1
 have HG11 := lh hg11
 clear hown hrow hat11 hsz hg1 hg11
 refine hK.out _ _ (.inl (fun _ => hS2)) ?_
 replace hS := hS2; clear hK K hS2
 try simp only [zz]
 refine pM 14 ?_
 simp only [zz]
 refine pM 15 ?_
 simp only [zz]
 refine rM 16 fun K hK => ?_
 have a1 : w11.cell? ⟨J.q, 1, none⟩ = some (.slice (some ⟨J.g, 0, none⟩) α.n J.c) := hS.1.at 1
 have f1 := hS.1.fr 1
 go_simp
 refine hK.out _ _ (.inr (by decide)) ?_
 clear hK K
 try simp only [zz]
 refine dM ?_ _
 have hS2 := HS2.out
 have hs := hS.1.set 1 (.slice (some ⟨g1, 0, none⟩) (α.n + 1) c1)
 simp only [List.setIfInBounds_toArray, List.set_cons_zero, List.set_cons_succ] at hs
 have hg12 := gset w11 J.q 1 (.slice (some ⟨g1, 0, none⟩) (α.n + 1) c1)
 have hne := HA.out.ne
 have hbA := HA.out.blk.lt
 have hne1 : J.q ≠ g1 := by rcases HG1.out with h | h <;> omega
 have hn12 := HN11.out.kept hg12 (by simpa using hne1)
 have hcA : Chg (AOwn J) w10 (w11.setCell ⟨J.q, 1, none⟩ (.slice (some ⟨g1, 0, none⟩) (α.n + 1) c1)) := (Chg.one HG11.out (.inr rfl)).trans (Chg.one hg12 (.inl rfl))
 have hsz11 := hcA.size
 have hN0 : 0 < σ2.bs.length := by have := HM2.out.l1; omega
 have hgA := HA.out.row.lt
 have hst := HH.out.reex hN0 (by rw [HX.out]; exact hcA) (AOwn { J with g := g1, c := c1 }) (fun i hi => by
  rw [HX.out]
  rcases hi with hi | hi
  ·exact .inl (.inl hi)
  ·rw [hi]
   rcases HG1.out with h | h
   ·exact .inl (.inr h)
   ·exact .inr h) (fun i hi => by
  rcases hi with hi | hi
  ·rw [hi]; show J.q < _; omega
  ·rw [hi]; show g1 < _; have := HN11.out.lt; simpa using this)
 have hat : ArrAt _ { J with g := g1, c := c1 } I.p (addA α r q) := ⟨hs, by unfold addA; simp only; rw [← HAT.out]; exact hn12, hne1, by show α.n + 1 ≤ 100000; omega⟩
 have hcc := HG.out.trans (hcA.mono (fun i hi => .inr hi))
 have hg1w : g1 = J.g ∨ w.heap.size ≤ g1 := HG1.out.imp id (fun h => Nat.le_trans HG.out.size h)
 have HGW := lh hg1w
 clear hg1w
 rw [hS2] at hst
 generalize w11.setCell ⟨J.q, 1, none⟩ (.slice (some ⟨g1, 0, none⟩) (α.n + 1) c1) = w12 at hst hat hcc ⊢
 clear hs hg12 hn12 hcA hsz11 HH HA HG HG11 HN11 hS2 hS HB10 HS2
 have HH := lh hst
 have HA := lh hat
 have HG := lh hcc
 clear hst hat hcc
 go_wp2_with fail
 rw [rounds_succ]
 go_wp2
 go_ret
 exact ⟨_, _, _, rfl, HH.out, HA.out, HG.out, HGW.out⟩
end
end Go.Proofs.YtndfpmboanohcaaGreatDoor
