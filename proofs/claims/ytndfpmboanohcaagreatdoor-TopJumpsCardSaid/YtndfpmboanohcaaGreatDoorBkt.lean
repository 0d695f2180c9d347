/- The bucket engine's memory; contract of bucket.Of at a configuration that may be. -/
import Derived.Test.YtndfpmboanohcaaGreatDoorSof
namespace Go.Proofs.YtndfpmboanohcaaGreatDoor
set_option maxRecDepth 100000
open Go.RowKit Go.Maps SkipPure

/-- What lies for the engine besides its store. -/
structure Bkt where
  n : Nat
  hgt : Int → Option Nat
  par : Int → Int
  nb : Nat
  bu : Int → Option Int
structure BIds where
  q : Nat
  lp : Nat
  lb : Nat
  mb : Nat
  lok : Nat → Prop
def BOwn (J : BIds) (i : Nat) : Prop := i = J.q ∨ i = J.mb ∨ J.lok i
/-- Weights as they lie in the map. -/
def wts (bu : Int → Option Int) : Int → Option Value := fun r => (bu r).map fun x => .int .u64 x
structure BktAt (w : World) (J : BIds) (p : Nat) (β : Bkt) : Prop where
  blk : Blk w J.q #[.pointer (some ⟨p, 0, none⟩), .pointer (some ⟨J.lp, 0, none⟩), .map (some J.mb)] 122
  list : SkipAt w J.lok J.lp J.lb β.n β.hgt β.par
  buckets : RawMap Tryz.prog 27 w J.mb β.nb (wts β.bu)
  lokb : ∀ j, J.lok j → j < w.heap.size ∧ j ≠ J.q ∧ j ≠ J.mb
  ne : J.q ≠ J.mb
  tree : SkipPure.Tree β.hgt β.par
  keys : Keys β.hgt
  n : β.n ≤ 100000
  hb : ∀ r h, β.hgt r = some h → h ≤ 100000
section
variable {w w' : World} {J : BIds} {p : Nat} {β : Bkt}
theorem BktAt.kept0 (h : BktAt w J p β) (hg : w.grownBy w' none) : BktAt w' J p β :=
  ⟨h.blk.g hg, h.list.kept hg (fun k e => by cases e), h.buckets.kept hg (by simp), fun j hj => ⟨Nat.lt_of_lt_of_le (h.lokb j hj).1 hg.size, (h.lokb j hj).2⟩, h.ne, h.tree, h.keys, h.n, h.hb⟩
theorem SkipAt.chg {S : Nat → Prop} {ok : Nat → Prop} {p b n : Nat} {hgt : Int → Option Nat} {par : Int → Int} (h : SkipAt w ok p b n hgt par) (hc : Chg S w w') (hs : ∀ i, ok i → ¬ S i) : SkipAt w' ok p b n hgt par := by
  obtain ⟨h1, h2, h3, h4, F, h5, h6⟩ := h
  refine ⟨h1, h2, h3, hc.blk (q := p) h4 (hs _ h1), F, hc.raw h5 (hs _ h2), fun r hr => ?_⟩
  have h7 := h6 r hr
  unfold NodeAt at h7 ⊢
  split at h7
  · exact h7
  · obtain ⟨a, c, e, hrow⟩ := h7
    refine ⟨a, c, e, ?_⟩
    rcases hrow with hrow | ⟨g, ea, l1, l2, l3, l4⟩
    · exact .inl hrow
    · exact .inr ⟨g, ea, l1, l2, l3, fun i hi => hc.cell (l4 i hi) (hs g l3)⟩
theorem BktAt.chg {S : Nat → Prop} (h : BktAt w J p β) (hc : Chg S w w') (hs : ∀ i, BOwn J i → ¬ S i) : BktAt w' J p β :=
  ⟨hc.blk h.blk (hs _ (.inl rfl)), h.list.chg hc (fun i hi => hs i (.inr (.inr hi))), hc.raw h.buckets (hs _ (.inr (.inl rfl))), fun j hj => ⟨Nat.lt_of_lt_of_le (h.lokb j hj).1 hc.size, (h.lokb j hj).2⟩, h.ne, h.tree, h.keys, h.n, h.hb⟩
def bkt0 : Bkt := { n := 1, hgt := hgtOne 1, par := fun x => x, nb := 0, bu := fun _ => none }
end
section
variable {w : World} {bs : List Int} {S B : Int} {ad : Option Addr} {c : Nat}
theorem bof_calls (hb : Ints .u64 w ad bs) (hm : MayBe bs S B) :
    Calls Tryz.prog 25 #[cfgV ad bs.length c S B] w fun e w' => ∃ I J, e = .returned (.tuple #[.pointer (some ⟨J.q, 0, none⟩), .nilIface]) ∧ StoreAt w' I (st0 bs S B) ∧ BktAt w' J I.p bkt0 ∧ I.ex = BOwn J ∧ w.grownBy w' none ∧
      (∀ i, Mut I i → w.heap.size ≤ i) ∧ (∀ i, BOwn J i → w.heap.size ≤ i) := by
  have HB := Lib.hid hb
  have HM := Lib.hid hm
  clear hb hm
  unfold cfgV
  go_enter Tryz.func25, Tryz.ntmps25
  go_upto_region 1 with (fail)
  refine nmC1 ?_
  intro W b0 hz hg
  obtain ⟨q, hq_q⟩ : ∃ q, q = w.heap.size := ⟨_, rfl⟩
  rw [← hq_q] at b0 hz ⊢
  have HQ_q := Lib.hid hq_q
  clear hq_q
  have HQ := Lib.hid b0
  have HG := Lib.hid hg
  clear b0 hg
  replace HB := Lib.hid (Ints.kept HB.out HG.out)
  obtain ⟨c0, c1, c2⟩ := HQ.out.c3
  go_wp2_with fail
  refine (sof_calls HB.out HM.out).mono ?_
  rintro e w1 ⟨I, rfl, hst, hch, hex, hmu, hg⟩
  have hwW := HG.out.size
  replace HG := Lib.hid (g2 HG.out hg)
  clear hg c0 c1 c2 HB HQ hch
  have hmu2 : ∀ i, Mut I i → w.heap.size ≤ i := fun i hi => Nat.le_trans hwW (hmu i hi)
  have HH := Lib.hid hst
  have HEX := Lib.hid hex
  have HMU := Lib.hid hmu2
  clear hst hex hmu2
  clear hmu hwW
  go_wp2_with fail
  refine (of_calls w1 (r := 1) (by unfold inU; omega)).mono ?_
  rintro e w2 ⟨lp, lb, rfl, hsk, hg⟩
  have HSK := Lib.hid hsk
  have HG2 := Lib.hid hg
  clear hsk hg
  have hmm := @run_makeMap Tryz.prog
  go_wp2
  go_ret2
  have r1 := RawMap.made Tryz.prog 27 w2
  have g1 := World.grownBy_alloc w2 (Obj.map #[] 0) none
  have z1 : (w2.alloc (Obj.map #[] 0)).heap.size = w2.heap.size + 1 := by simp
  obtain ⟨k1, hz1, hg1⟩ := alloc1 (w2.alloc (Obj.map #[] 0)) #[.pointer (some ⟨I.p, 0, none⟩), .pointer (some ⟨lp, 0, none⟩), .map (some w2.heap.size)] 122
  rw [z1] at k1 hz1
  have hgg := g2 g1 hg1
  have r2 := r1.kept hg1 (by simp)
  have hsk := HSK.out.kept hgg (fun k e => by cases e)
  have hl1 : 0 < bs.length := by have := HM.out.l1; omega
  have h12 := HG2.out.size
  have hsz := HG.out.size
  have e : wts (fun _ => none) = fun _ => none := rfl
  obtain ⟨J, hJ⟩ : ∃ J : BIds, J = ⟨w2.heap.size + 1, lp, lb, w2.heap.size, fun k => w1.heap.size ≤ k ∧ k < w2.heap.size⟩ := ⟨_, rfl⟩
  have hown : ∀ i, BOwn J i → w1.heap.size ≤ i ∧ i < w2.heap.size + 1 + 1 := fun i hi => by
    rw [hJ] at hi
    rcases hi with e | e | ⟨e1, e2⟩
    · rw [e]; exact ⟨by show w1.heap.size ≤ w2.heap.size + 1; omega, by show w2.heap.size + 1 < _; omega⟩
    · rw [e]; exact ⟨h12, by show w2.heap.size < _; omega⟩
    · omega
  have hst := HH.out.reex (I := I) hl1 (Chg.of (g2 HG2.out hgg)) (BOwn J) (fun i hi => .inr (hown i hi).1) (fun i hi => by rw [hz1]; exact (hown i hi).2)
  refine ⟨{ I with ex := BOwn J }, J, by rw [hJ]; rfl, hst, ?_, rfl, g2 HG.out (g2 HG2.out hgg), HMU.out, fun i hi => Nat.le_trans hsz (hown i hi).1⟩
  rw [hJ]
  refine ⟨k1, hsk, r2, fun j hj => ⟨by rw [hz1]; have := hj.2; omega, by have := hj.2; show j ≠ w2.heap.size + 1; omega, by have := hj.2; show j ≠ w2.heap.size; omega⟩, by show w2.heap.size + 1 ≠ w2.heap.size; omega, ?_, ?_, by show 1 ≤ 100000; omega, ?_⟩
  · intro x h hx
    unfold bkt0 hgtOne at hx
    simp only at hx
    split at hx <;> cases hx
  · intro x h hx
    unfold bkt0 hgtOne at hx
    simp only at hx
    split at hx
    · next e => cases hx; rw [e]; exact ⟨by unfold inU; omega, by omega⟩
    · cases hx
  · intro x h hx
    unfold bkt0 hgtOne at hx
    simp only at hx
    split at hx
    · cases hx; omega
    · cases hx
end
end Go.Proofs.YtndfpmboanohcaaGreatDoor
