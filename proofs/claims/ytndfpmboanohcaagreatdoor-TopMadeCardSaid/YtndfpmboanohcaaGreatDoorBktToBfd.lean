/- The bucket engine's memory; contract of bucket.Of at a configuration that may be. -/
import Derived.Test.YtndfpmboanohcaaGreatDoorSof
namespace Go.Proofs.YtndfpmboanohcaaGreatDoor
set_option maxRecDepth 100000
open Go.RowKit Go.Maps SkipPure
structure Bkt where
 n : Nat
 hgt : Int → Option Nat
 par : Int → Int
 nb : Nat
 bu : Int → Option Int
structure BIds where
 q : Nat
 lp : Nat
 lb : Nat
 mb : Nat
 lok : Nat → Prop
def BOwn (J : BIds) (i : Nat) : Prop := i = J.q ∨ i = J.mb ∨ J.lok i
def wts (bu : Int → Option Int) : Int → Option Value := fun r => (bu r).map fun x => .int .u64 x
structure BktAt (w : World) (J : BIds) (p : Nat) (β : Bkt) : Prop where
 blk : Blk w J.q #[.pointer (some ⟨p, 0, none⟩), .pointer (some ⟨J.lp, 0, none⟩), .map (some J.mb)] 122
 list : SkipAt w J.lok J.lp J.lb β.n β.hgt β.par
 buckets : RawMap Tryz.prog 27 w J.mb β.nb (wts β.bu)
 lokb : ∀ j, J.lok j → j < w.heap.size ∧ j ≠ J.q ∧ j ≠ J.mb
 ne : J.q ≠ J.mb
 tree : SkipPure.Tree β.hgt β.par
 keys : Keys β.hgt
 n : β.n ≤ 100000
 hb : ∀ r h, β.hgt r = some h → h ≤ 100000
section
variable {w w' : World} {J : BIds} {p : Nat} {β : Bkt}
theorem BktAt.kept0 (h : BktAt w J p β) (hg : w.grownBy w' none) : BktAt w' J p β :=
 ⟨h.blk.g hg, h.list.kept hg (fun k e => by cases e), h.buckets.kept hg (by simp), fun j hj => ⟨Nat.lt_of_lt_of_le (h.lokb j hj).1 hg.size, (h.lokb j hj).2⟩, h.ne, h.tree, h.keys, h.n, h.hb⟩
theorem SkipAt.chg {S : Nat → Prop} {ok : Nat → Prop} {p b n : Nat} {hgt : Int → Option Nat} {par : Int → Int} (h : SkipAt w ok p b n hgt par) (hc : Chg S w w') (hs : ∀ i, ok i → ¬ S i) : SkipAt w' ok p b n hgt par := by
 obtain ⟨h1, h2, h3, h4, F, h5, h6⟩ := h
 refine ⟨h1, h2, h3, hc.blk (q := p) h4 (hs _ h1), F, hc.raw h5 (hs _ h2), fun r hr => ?_⟩
 have h7 := h6 r hr
 unfold NodeAt at h7 ⊢
 split at h7
 ·exact h7
 ·obtain ⟨a, c, e, hrow⟩ := h7
  refine ⟨a, c, e, ?_⟩
  rcases hrow with hrow | ⟨g, ea, l1, l2, l3, l4⟩
  ·exact .inl hrow
  ·exact .inr ⟨g, ea, l1, l2, l3, fun i hi => hc.cell (l4 i hi) (hs g l3)⟩
theorem BktAt.chg {S : Nat → Prop} (h : BktAt w J p β) (hc : Chg S w w') (hs : ∀ i, BOwn J i → ¬ S i) : BktAt w' J p β :=
 ⟨hc.blk h.blk (hs _ (.inl rfl)), h.list.chg hc (fun i hi => hs i (.inr (.inr hi))), hc.raw h.buckets (hs _ (.inr (.inl rfl))), fun j hj => ⟨Nat.lt_of_lt_of_le (h.lokb j hj).1 hc.size, (h.lokb j hj).2⟩, h.ne, h.tree, h.keys, h.n, h.hb⟩
def bkt0 : Bkt := { n := 1, hgt := hgtOne 1, par := fun x => x, nb := 0, bu := fun _ => none }
end
section
variable {w : World} {bs : List Int} {S B : Int} {ad : Option Addr} {c : Nat}
theorem bof_calls (hb : Ints .u64 w ad bs) (hm : MayBe bs S B) :
  Calls Tryz.prog 25 #[cfgV ad bs.length c S B] w fun e w' => ∃ I J, e = .returned (.tuple #[.pointer (some ⟨J.q, 0, none⟩), .nilIface]) ∧ StoreAt w' I (st0 bs S B) ∧ BktAt w' J I.p bkt0 ∧ I.ex = BOwn J ∧ w.grownBy w' none ∧
   (∀ i, Mut I i → w.heap.size ≤ i) ∧ (∀ i, BOwn J i → w.heap.size ≤ i) := by
 have HB := lh hb
 have HM := lh hm
 clear hb hm
 unfold cfgV
 go_enter Tryz.func25, Tryz.ntmps25
 go_upto_region 1 with (fail)
 refine nmC1 ?_
 intro W b0 hz hg
 obtain ⟨q, hq_q⟩ : ∃ q, q = w.heap.size := ⟨_, rfl⟩
 rw [← hq_q] at b0 hz ⊢
 have HQ_q := lh hq_q
 clear hq_q
 have HQ := lh b0
 have HG := lh hg
 clear b0 hg
 replace HB := lh (Ints.kept HB.out HG.out)
 obtain ⟨c0, c1, c2⟩ := HQ.out.c3
 go_wp2_with fail
 refine (sof_calls HB.out HM.out).mono ?_
 rintro e w1 ⟨I, rfl, hst, hch, hex, hmu, hg⟩
 have hwW := HG.out.size
 replace HG := lh (g2 HG.out hg)
 clear hg c0 c1 c2 HB HQ hch
 have hmu2 : ∀ i, Mut I i → w.heap.size ≤ i := fun i hi => Nat.le_trans hwW (hmu i hi)
 have HH := lh hst
 have HEX := lh hex
 have HMU := lh hmu2
 clear hst hex hmu2
 clear hmu hwW
 go_wp2_with fail
 refine (of_calls w1 (r := 1) (by unfold inU; omega)).mono ?_
 rintro e w2 ⟨lp, lb, rfl, hsk, hg⟩
 have HSK := lh hsk
 have HG2 := lh hg
 clear hsk hg
 have hmm := @run_makeMap Tryz.prog
 go_wp2
 go_ret2
 have r1 := RawMap.made Tryz.prog 27 w2
 have g1 := World.grownBy_alloc w2 (Obj.map #[] 0) none
 have z1 : (w2.alloc (Obj.map #[] 0)).heap.size = w2.heap.size + 1 := by simp
 obtain ⟨k1, hz1, hg1⟩ := alloc1 (w2.alloc (Obj.map #[] 0)) #[.pointer (some ⟨I.p, 0, none⟩), .pointer (some ⟨lp, 0, none⟩), .map (some w2.heap.size)] 122
 rw [z1] at k1 hz1
 have hgg := g2 g1 hg1
 have r2 := r1.kept hg1 (by simp)
 have hsk := HSK.out.kept hgg (fun k e => by cases e)
 have hl1 : 0 < bs.length := by have := HM.out.l1; omega
 have h12 := HG2.out.size
 have hsz := HG.out.size
 have e : wts (fun _ => none) = fun _ => none := rfl
 obtain ⟨J, hJ⟩ : ∃ J : BIds, J = ⟨w2.heap.size + 1, lp, lb, w2.heap.size, fun k => w1.heap.size ≤ k ∧ k < w2.heap.size⟩ := ⟨_, rfl⟩
 have hown : ∀ i, BOwn J i → w1.heap.size ≤ i ∧ i < w2.heap.size + 1 + 1 := fun i hi => by
  rw [hJ] at hi
  rcases hi with e | e | ⟨e1, e2⟩
  ·rw [e]; exact ⟨by show w1.heap.size ≤ w2.heap.size + 1; omega, by show w2.heap.size + 1 < _; omega⟩
  ·rw [e]; exact ⟨h12, by show w2.heap.size < _; omega⟩
  ·omega
 have hst := HH.out.reex (I := I) hl1 (Chg.of (g2 HG2.out hgg)) (BOwn J) (fun i hi => .inr (hown i hi).1) (fun i hi => by rw [hz1]; exact (hown i hi).2)
 refine ⟨{ I with ex := BOwn J }, J, by rw [hJ]; rfl, hst, ?_, rfl, g2 HG.out (g2 HG2.out hgg), HMU.out, fun i hi => Nat.le_trans hsz (hown i hi).1⟩
 rw [hJ]
 refine ⟨k1, hsk, r2, fun j hj => ⟨by rw [hz1]; have := hj.2; omega, by have := hj.2; show j ≠ w2.heap.size + 1; omega, by have := hj.2; show j ≠ w2.heap.size; omega⟩, by show w2.heap.size + 1 ≠ w2.heap.size; omega, ?_, ?_, by show 1 ≤ 100000; omega, ?_⟩
 ·intro x h hx
  unfold bkt0 hgtOne at hx
  simp only at hx
  split at hx <;> cases hx
 ·intro x h hx
  unfold bkt0 hgtOne at hx
  simp only at hx
  split at hx
  ·next e => cases hx; rw [e]; exact ⟨by unfold inU; omega, by omega⟩
  ·cases hx
 ·intro x h hx
  unfold bkt0 hgtOne at hx
  simp only at hx
  split at hx
  ·cases hx; omega
  ·cases hx
end
section
variable {w w' : World} {I : Ids} {σ : St} {J : BIds} {β : Bkt}
set_option maxHeartbeats 2000000 in
theorem bfeed_tick (h : StoreAt w I σ) (ha : BktAt w J I.p β) (hx : ∀ i, BOwn J i → I.ex i) (s : Int) :
  Calls Tryz.prog 174 #[.pointer (some ⟨J.q, 0, none⟩), evTick s] w fun e w' => e = .returned (errV (tickE σ s)) ∧ StoreAt w' { I with ch := .slice none 0 0 } (tickF σ s) ∧ BktAt w' J I.p β ∧ Chg (Mut I) w w' := by
 have HH := lh h
 have HA := lh ha
 have HX := lh hx
 have hpl := h.blk.lt
 have hql := ha.blk.lt
 clear h ha hx
 obtain ⟨E, hE⟩ : ∃ E, E = errV (tickE σ s) := ⟨_, rfl⟩
 rw [← hE]
 have HE := lh hE
 clear hE
 unfold evTick evV
 go_enter Tryz.func174, Tryz.ntmps174
 go_upto_region 1 with (fail)
 refine nmC1 ?_
 intro W b0 hz hg
 obtain ⟨q, hq_q⟩ : ∃ q, q = w.heap.size := ⟨_, rfl⟩
 rw [← hq_q] at b0 hz hpl hql ⊢
 have HQ_q := lh hq_q
 clear hq_q
 change EvBox W q (evCells 0 s 0 0 0 (.slice none 0 0) (.slice none 0 0)) at b0
 have HB0 := lh b0
 have HG := lh hg
 clear b0 hg
 replace HH := lh (HH.out.g HG.out)
 replace HA := lh (HA.out.kept0 HG.out)
 have TK := lh fun w (hSw : (fun wr => StoreAt wr I σ ∧ BktAt wr J I.p β ∧ EvBox wr q (evCells 0 s 0 0 0 (.slice none 0 0) (.slice none 0 0))) w) => show w.cell? ⟨J.q, 0, none⟩ = some (.pointer (some ⟨I.p, 0, none⟩)) from hSw.2.1.blk.at 0
 refine wp_region_late (fun wr => StoreAt wr I σ ∧ BktAt wr J I.p β ∧ EvBox wr q (evCells 0 s 0 0 0 (.slice none 0 0) (.slice none 0 0))) [5] (by as_aux_lemma => kernel_rfl) ?_
 have hgd := gdrew (gR W none)
 have hS : (fun wr => StoreAt wr I σ ∧ BktAt wr J I.p β ∧ EvBox wr q (evCells 0 s 0 0 0 (.slice none 0 0) (.slice none 0 0))) W.drew := ⟨HH.out.g hgd, HA.out.kept0 hgd, Blk.g HB0.out hgd⟩
 replace HG := lh (g2 HG.out hgd)
 clear hgd HH HA HB0
 generalize W.drew = w2 at HG hS ⊢
 refine pM 0 ?_
 simp only [zz]
 refine pM 1 ?_
 simp only [zz]
 refine pM 2 ?_
 simp only [zz]
 refine tM 3 ?_
 simp only [zz]
 refine wM 4 ?_ ?_ hS ?_; rotate_left; · intro w hSw; (refine exec_load_blk (ty := 68) (off := 0) (hSw.2.2) ?_ _ Tryz.underlying68 rfl (evCells 0 s 0 0 0 (.slice none 0 0) (.slice none 0 0)) ?_ ?_ <;> first | exact ⟨_, rfl, rfl⟩ | rfl | (as_aux_lemma => kernel_rfl))
 simp only [zz]
 refine rM 5 fun K hK => ?_
 go_simp
 refine (apply_tick hS.1 s).mono ?_
 rintro e w3 ⟨rfl, hst, hc⟩
 have ha3 := hS.2.1.chg hc (fun i hi => hS.1.exd _ (HX.out _ hi))
 rw [← HE.out]
 replace HG := lh ((Chg.of HG.out).trans hc)
 have HH := lh hst
 have HA := lh ha3
 clear hst ha3
 clear hc
 refine hK.out _ _ (.inr (by decide)) ?_
 clear hK K
 try simp only [zz]
 refine pM 6 ?_
 simp only [zz]
 refine pM 7 ?_
 simp only [zz]
 refine pM 8 ?_
 simp only [zz]
 refine pM 9 ?_
 simp only [zz]
 refine pM 10 ?_
 simp only [zz]
 refine dM ?_ _
 go_wp2_with fail
 refine wp_loop_rounds 1 ?_
 rw [rounds_succ]
 go_wp2
 go_ret
 exact ⟨rfl, HH.out, HA.out, HG.out⟩
def addB (β : Bkt) (r q : Int) (k : Nat) : Bkt := { β with n := β.n + 1, hgt := setHgt β.hgt r (k + 1), par := setPar β.par r q }
set_option maxHeartbeats 8000000 in
theorem bfeed_add (h : StoreAt w I σ) (hw : StWf σ) (ha : BktAt w J I.p β) (hx : I.ex = BOwn J) (hn : β.n ≤ 2000) {r q s qq qs qh : Int} {x : Led} (hA : Addable σ r q s qq qs qh x) {kq : Nat} (hhq : β.hgt q = some kq) (hhk : kq ≤ 50000) (hhr : β.hgt r = none) :
  Calls Tryz.prog 174 #[.pointer (some ⟨J.q, 0, none⟩), evAdd r q s] w fun e w' => ∃ ch lok, e = .returned .nilIface ∧ StoreAt w' { I with ch := ch, ex := BOwn { J with lok := lok } } (addS σ r q s qh x) ∧ BktAt w' { J with lok := lok } I.p (addB β r q kq) ∧
   Chg (fun i => Mut I i ∨ BOwn J i) w w' := by
 have HH := lh h
 have HA := lh ha
 have HX := lh hx
 have HW := lh hw
 have HAD := lh hA
 have HHQ := lh hhq
 have HHR := lh hhr
 clear hhq hhr
 have hpl := h.blk.lt
 have hql := ha.blk.lt
 clear h ha hx hw hA
 unfold evAdd evV
 go_enter Tryz.func174, Tryz.ntmps174
 go_upto_region 1 with (fail)
 refine nmC1 ?_
 intro W b0 hz hg
 obtain ⟨qb, hq_qb⟩ : ∃ q, q = w.heap.size := ⟨_, rfl⟩
 rw [← hq_qb] at b0 hz hpl hql ⊢
 have HQ_qb := lh hq_qb
 clear hq_qb
 change EvBox W qb (evCells 1 0 r q s (.slice none 0 0) (.slice none 0 0)) at b0
 have HB0 := lh b0
 have HG := lh hg
 clear b0 hg
 replace HH := lh (HH.out.g HG.out)
 replace HA := lh (HA.out.kept0 HG.out)
 have TK := lh fun w (hSw : (fun wr => StoreAt wr I σ ∧ BktAt wr J I.p β ∧ EvBox wr qb (evCells 1 0 r q s (.slice none 0 0) (.slice none 0 0))) w) => show w.cell? ⟨J.q, 0, none⟩ = some (.pointer (some ⟨I.p, 0, none⟩)) from hSw.2.1.blk.at 0
 refine wp_region_late (fun wr => StoreAt wr I σ ∧ BktAt wr J I.p β ∧ EvBox wr qb (evCells 1 0 r q s (.slice none 0 0) (.slice none 0 0))) [5] (by as_aux_lemma => kernel_rfl) ?_
 have hgd := gdrew (gR W none)
 have hS : (fun wr => StoreAt wr I σ ∧ BktAt wr J I.p β ∧ EvBox wr qb (evCells 1 0 r q s (.slice none 0 0) (.slice none 0 0))) W.drew := ⟨HH.out.g hgd, HA.out.kept0 hgd, Blk.g HB0.out hgd⟩
 replace HG := lh (g2 HG.out hgd)
 clear hgd HH HA HB0
 generalize W.drew = w2 at HG hS ⊢
 refine pM 0 ?_
 simp only [zz]
 refine pM 1 ?_
 simp only [zz]
 refine pM 2 ?_
 simp only [zz]
 refine tM 3 ?_
 simp only [zz]
 refine wM 4 ?_ ?_ hS ?_; rotate_left; · intro w hSw; (refine exec_load_all (ty := 68) (hSw.2.2) ?_ _ Tryz.underlying68 rfl ?_ <;> first | exact ⟨_, rfl, rfl⟩ | (as_aux_lemma => kernel_rfl))
 simp only [zz]
 refine rM 5 fun K hK => ?_
 go_simp
 refine (apply_adds hS.1 HW.out HAD.out).mono ?_
 rintro e w3 ⟨g, c, rfl, hst, hrow, hc⟩
 have hexq : ∀ i, BOwn J i → ¬ Mut I i := fun i hi => hS.1.exd i (by rw [HX.out]; exact hi)
 have ha3 := hS.2.1.chg hc hexq
 have hcc := (Chg.of (S := fun i => Mut I i ∨ BOwn J i) HG.out).trans (hc.mono (fun i hi => .inl hi))
 have hgw := hrow.lt g rfl
 clear hexq HG
 have HH := lh hst
 have HA := lh ha3
 have HROW := lh hrow
 have HG := lh hcc
 clear hst ha3 hrow hcc
 clear hc
 refine hK.out _ _ (.inr (by decide)) ?_
 clear hK K
 try simp only [zz]
 refine pM 6 ?_
 simp only [zz]
 refine pM 7 ?_
 simp only [zz]
 refine pM 8 ?_
 simp only [zz]
 refine pM 9 ?_
 simp only [zz]
 refine pM 10 ?_
 simp only [zz]
 refine dM ?_ _
 have r0 : w3.cell? ⟨g, 0, none⟩ = some (.int .i64 0) := HROW.out.cells (g := g) rfl 0 _ rfl
 have r1 : w3.cell? ⟨g, 1, none⟩ = some (.int .u64 r) := HROW.out.cells (g := g) rfl 1 _ rfl
 have r2 : w3.cell? ⟨g, 2, none⟩ = some (.int .u64 q) := HROW.out.cells (g := g) rfl 2 _ rfl
 have r3 : w3.cell? ⟨g, 3, none⟩ = some (.int .i64 0) := HROW.out.cells (g := g) rfl 3 _ rfl
 have r4 : w3.cell? ⟨g, 4, none⟩ = some (.int .u64 0) := HROW.out.cells (g := g) rfl 4 _ rfl
 have r5 : w3.cell? ⟨g, 5, none⟩ = some (.bool false) := HROW.out.cells (g := g) rfl 5 _ rfl
 go_wp2_with fail
 refine wp_loop_rounds 2 ?_
 rw [rounds_succ]
 go_upto_region 5 with (fail)
 obtain ⟨σ2, hσ⟩ : ∃ σ2, σ2 = addS σ r q s qh x := ⟨_, rfl⟩
 have hm2 : MayBe σ2.bs σ2.S σ2.B := by rw [hσ]; exact HW.out.may
 rw [← hσ] at HH
 have HS2 := lh hσ
 have HM2 := lh hm2
 clear hσ hm2 r0 r1 r2 r3 r4 r5
 refine nmC1 ?_
 intro W4 b4 hz4 hg4
 have hql := HA.out.blk.lt
 have hpl3 := HH.out.blk.lt
 have hgl3 := (HA.out.lokb J.lb HA.out.list.2.1).1
 obtain ⟨qc, hq_qc⟩ : ∃ q, q = w3.heap.size := ⟨_, rfl⟩
 rw [← hq_qc] at b4 hz4 hgw hql hpl3 hgl3 ⊢
 have HQ_qc := lh hq_qc
 clear hq_qc
 have HQC := lh b4
 replace HH := lh (HH.out.g hg4)
 replace HA := lh (HA.out.kept0 hg4)
 replace HG := lh (HG.out.trans (Chg.of hg4))
 clear b4 hg4 hz4
 have TK := lh fun w (hSw : (fun wr => StoreAt wr { I with ch := .slice (some ⟨g, 0, none⟩) 1 c } σ2 ∧ BktAt wr J I.p β ∧ Blk wr qc #[.int .i64 0, .int .u64 r, .int .u64 q, .int .i64 0, .int .u64 0, .bool false] 178) w) => And.intro (show w.cell? ⟨J.q, 0, none⟩ = some (.pointer (some ⟨I.p, 0, none⟩)) from hSw.2.1.blk.at 0) <| And.intro hSw.1.s0 <| And.intro hSw.1.s1 <| And.intro hSw.1.s2 <| show w.cell? ⟨qc, 3, none⟩ = some (.int .i64 0) from hSw.2.2.at 3
 refine wp_region_late (fun wr => StoreAt wr { I with ch := .slice (some ⟨g, 0, none⟩) 1 c } σ2 ∧ BktAt wr J I.p β ∧ Blk wr qc #[.int .i64 0, .int .u64 r, .int .u64 q, .int .i64 0, .int .u64 0, .bool false] 178) [] (by as_aux_lemma => kernel_rfl) ?_
 have hgd := gdrew (gR W4 none)
 have hS : (fun wr => StoreAt wr { I with ch := .slice (some ⟨g, 0, none⟩) 1 c } σ2 ∧ BktAt wr J I.p β ∧ Blk wr qc #[.int .i64 0, .int .u64 r, .int .u64 q, .int .i64 0, .int .u64 0, .bool false] 178) W4.drew := ⟨HH.out.g hgd, HA.out.kept0 hgd, HQC.out.g hgd⟩
 replace HG := lh (HG.out.trans (Chg.of hgd))
 clear hgd HH HA HQC
 generalize W4.drew = w5 at HG hS ⊢
 refine pM 0 ?_
 simp only [zz]
 refine pM 1 ?_
 simp only [zz]
 refine pM 2 ?_
 simp only [zz]
 refine pM 7 ?_
 simp only [zz]
 refine tM 3 ?_
 simp only [zz]
 refine pM 4 ?_
 simp only [zz]
 refine pM 5 ?_
 simp only [zz]
 refine tM 6 ?_
 simp only [zz]
 refine tM 8 ?_
 simp only [zz]
 refine rM 9 fun K hK => ?_
 go_simp
 refine nmA1 ?_
 intro w6 b6 hg6
 generalize w5.heap.size = gm at b6 ⊢
 have HB6 := lh b6
 have hS2 : (fun wr => _) w6 := And.intro (hS.1.g hg6) (And.intro (hS.2.1.kept0 hg6) (hS.2.2.g hg6))
 replace HG := lh (HG.out.trans (Chg.of hg6))
 clear hg6 b6
 refine hK.out _ _ (.inl (fun _ => hS2)) ?_
 replace hS := hS2; clear hK K hS2
 try simp only [zz]
 refine rM 10 fun K hK => ?_
 go_simp
 refine (sum_calls (ks := [0]) hS.1.bal rfl (Ints.one HB6.out) rfl HM2.out.bal (by simp) (wf_one 0 (by rfl))).mono ?_
 rintro e w7 ⟨rfl, hg7⟩
 have hst := hS.1.g hg7
 have hat := hS.2.1.kept0 hg7
 have hqc := hS.2.2.g hg7
 replace HG := lh (HG.out.trans (Chg.of hg7))
 have hS2 : (fun wr => _) w7 := And.intro hst (And.intro hat hqc)
 generalize sumF σ2.bs [0] = sm
 clear hg7 HB6 hst hat hqc
 refine hK.out _ _ (.inl (fun _ => hS2)) ?_
 replace hS := hS2; clear hK K hS2
 try simp only [zz]
 refine pM 11 ?_
 simp only [zz]
 refine dM ?_ _
 have hst := hS.1
 have hat := hS.2.1
 have hqc := hS.2.2
 clear hS
 have HH := lh hst
 have HA := lh hat
 have HQC := lh hqc
 clear hst hat hqc
 have r0 : w7.cell? ⟨qc, 0, none⟩ = some (.int .i64 0) := HQC.out.at 0
 go_upto_region 8 with (fail)
 clear r0
 have TK := lh fun w (hSw : (fun wr => Blk wr J.q #[.pointer (some ⟨I.p, 0, none⟩), .pointer (some ⟨J.lp, 0, none⟩), .map (some J.mb)] 122 ∧ Blk wr qc #[.int .i64 0, .int .u64 r, .int .u64 q, .int .i64 0, .int .u64 0, .bool false] 178) w) => And.intro (show w.cell? ⟨J.q, 1, none⟩ = some (.pointer (some ⟨J.lp, 0, none⟩)) from hSw.1.at 1) <| And.intro (show w.cell? ⟨qc, 1, none⟩ = some (.int .u64 r) from hSw.2.at 1) <| show w.cell? ⟨qc, 2, none⟩ = some (.int .u64 q) from hSw.2.at 2
 refine wp_region_late (fun wr => Blk wr J.q #[.pointer (some ⟨I.p, 0, none⟩), .pointer (some ⟨J.lp, 0, none⟩), .map (some J.mb)] 122 ∧ Blk wr qc #[.int .i64 0, .int .u64 r, .int .u64 q, .int .i64 0, .int .u64 0, .bool false] 178) [] (by as_aux_lemma => kernel_rfl) ?_
 have hgd := gdrew (gR w7 none)
 have hS : (fun wr => Blk wr J.q #[.pointer (some ⟨I.p, 0, none⟩), .pointer (some ⟨J.lp, 0, none⟩), .map (some J.mb)] 122 ∧ Blk wr qc #[.int .i64 0, .int .u64 r, .int .u64 q, .int .i64 0, .int .u64 0, .bool false] 178) w7.drew := ⟨HA.out.blk.g hgd, HQC.out.g hgd⟩
 replace HH := lh (HH.out.g hgd)
 replace HA := lh (HA.out.kept0 hgd)
 replace HG := lh (HG.out.trans (Chg.of hgd))
 clear hgd HQC
 generalize w7.drew = w8 at HH HA HG hS ⊢
 refine pM 0 ?_
 simp only [zz]
 refine pM 1 ?_
 simp only [zz]
 refine pM 2 ?_
 simp only [zz]
 refine pM 4 ?_
 simp only [zz]
 refine pM 6 ?_
 simp only [zz]
 refine tM 3 ?_
 simp only [zz]
 refine tM 5 ?_
 simp only [zz]
 refine tM 7 ?_
 simp only [zz]
 refine rM 8 fun K hK => ?_
 go_simp
 have hlb := (HA.out.lokb J.lb HA.out.list.2.1)
 have hpl8 := HA.out.list.1
 refine (add_yes HA.out.list (fun j hj => (HA.out.lokb j hj).1) HA.out.tree HA.out.keys (by omega) HAD.out.hr (by omega) HHQ.out HHR.out).mono ?_
 rintro e w9 ⟨rfl, hg, hsk⟩
 have hS2 : (fun wr => _) w9 := And.intro (hS.1.kept hg (by simpa using fun e => hlb.2.1 e)) (hS.2.kept hg (by simp; omega))
 have hcA : Chg (BOwn J) w8 w9 := Chg.one hg (.inr (.inr HA.out.list.2.1))
 have hN0 : 0 < σ2.bs.length := by have := HM2.out.l1; omega
 obtain ⟨J', hJ⟩ : ∃ J' : BIds, J' = { J with lok := fun j => J.lok j ∨ (w8.heap.size ≤ j ∧ j < w9.heap.size) } := ⟨_, rfl⟩
 have hown : ∀ i, BOwn J' i → BOwn J i ∨ (w8.heap.size ≤ i ∧ i < w9.heap.size) := fun i hi => by
  rw [hJ] at hi
  rcases hi with e | e | e | e
  ·exact .inl (.inl e)
  ·exact .inl (.inr (.inl e))
  ·exact .inl (.inr (.inr e))
  ·exact .inr e
 have hbA := HA.out.blk.lt
 have hmA := HA.out.buckets.lt
 have hsz9 := hg.size
 have hlt8 : ∀ i, BOwn J i → i < w9.heap.size := fun i hi => by
  rcases hi with e | e | e
  ·rw [e]; omega
  ·rw [e]; omega
  ·have := (HA.out.lokb i e).1; omega
 have hst := HH.out.reex hN0 (by rw [HX.out]; exact hcA) (BOwn J') (fun i hi => by
  rw [HX.out]
  rcases hown i hi with h | h
  ·exact .inl h
  ·exact .inr h.1) (fun i hi => by
  rcases hown i hi with h | h
  ·exact hlt8 i h
  ·exact h.2)
 have hat : BktAt w9 J' I.p (addB β r q kq) := by
  rw [hJ]
  refine ⟨hS2.1, hsk, HA.out.buckets.kept hg (by simpa using fun e => hlb.2.2 e.symm), fun j hj => ?_, HA.out.ne, HA.out.tree.set HHR.out HHQ.out, fun x' m hm => ?_, by show β.n + 1 ≤ 100000; omega, fun x' m hm => ?_⟩
  ·rcases hj with hj | hj
   ·have h1 := HA.out.lokb j hj
    exact ⟨by omega, h1.2⟩
   ·exact ⟨hj.2, by show j ≠ J.q; omega, by show j ≠ J.mb; omega⟩
  ·unfold addB setHgt at hm
   simp only at hm
   split at hm
   ·next e => cases hm; rw [e]; exact ⟨HAD.out.hr, by omega⟩
   ·exact HA.out.keys x' m hm
  ·unfold addB setHgt at hm
   simp only at hm
   split at hm
   ·cases hm; omega
   ·exact HA.out.hb x' m hm
 have hcc := HG.out.trans (hcA.mono (fun i hi => .inr hi))
 rw [HS2.out] at hst
 clear HH HA HG hS
 have HH := lh hst
 have HA := lh hat
 have HG := lh hcc
 clear hst hat hcc
 have HJ := lh hJ
 clear hsk hcA hown hlt8 hJ
 refine hK.out _ _ (.inl (fun _ => hS2)) ?_
 replace hS := hS2; clear hK K hS2
 try simp only [zz]
 refine dM ?_ _
 go_wp2_with fail
 rw [rounds_succ]
 go_wp2
 go_ret
 have hJ2 := HJ.out
 subst hJ2
 exact ⟨_, _, rfl, HH.out, HA.out, HG.out⟩
end
end Go.Proofs.YtndfpmboanohcaaGreatDoor
