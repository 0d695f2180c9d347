/- What the argument of LatestScript reads as: deeds of four numbers each. -/
import Derived.Test.YtadncnpgekkjbaaScriptWalk
import Derived.Deep.Slices
import Derived.Deep.Fields
import Derived.ChangeSame
namespace Go.Proofs.Ytadncnpgekkjbaa.Script
open Go.RowKit Go.ChangeShapes Go.WideShapes Go.Deep
section
variable {H : Type} {enc : TypeId × Value → H} {w : World} {base : Nat} {spare : Nat → Bool} {held : Bool}

theorem cells30 : Try.prog.cellsOf 30 = 4 := by kernel_rfl
theorem cells5 : Try.prog.cellsOf 5 = 1 := by kernel_rfl
theorem cells27 : Try.prog.cellsOf 27 = 1 := by kernel_rfl
theorem cells28 : Try.prog.cellsOf 28 = 1 := by kernel_rfl

theorem open_act {fuel : Nat} {cs : List Value} {x : DataW H × List MemPlace} (h : DataW.trod enc Try.prog w base spare held fuel 30 cs = some x) :
    ∃ op who when_ root : Int, cs = [.int .u8 op, .int .i8 who, .int .i8 when_, .int .u64 root] ∧ (0 ≤ op ∧ op ≤ 255) ∧ (-128 ≤ who ∧ who ≤ 127) ∧ (-128 ≤ when_ ∧ when_ ≤ 127) := by
  obtain ⟨xs, n, _, _, hl, hlen, hf⟩ := DataW.trod_struct Try.underlying30 h
  rw [cells30] at hl
  match cs, hl with
  | [v0, v1, v2, v3], _ =>
    match xs, hlen with
    | [y0, y1, y2, y3], _ =>
      have h0 : DataW.trod enc Try.prog w base spare held n 5 [v0] = some y0 := by simpa [cells5] using hf 0 _ rfl
      have h1 : DataW.trod enc Try.prog w base spare held n 27 [v1] = some y1 := by simpa [cells27] using hf 1 _ rfl
      have h2 : DataW.trod enc Try.prog w base spare held n 27 [v2] = some y2 := by simpa [cells27] using hf 2 _ rfl
      have h3 : DataW.trod enc Try.prog w base spare held n 28 [v3] = some y3 := by simpa [cells28] using hf 3 _ rfl
      obtain ⟨op, e0, _, w0⟩ := DataW.trod_int Try.underlying5 h0
      obtain ⟨who, e1, _, w1⟩ := DataW.trod_int Try.underlying27 h1
      obtain ⟨wh, e2, _, w2⟩ := DataW.trod_int Try.underlying27 h2
      obtain ⟨root, e3, _, _⟩ := DataW.trod_int Try.underlying28 h3
      have e0 : v0 = .int .u8 op := by simpa using e0
      have e1 : v1 = .int .i8 who := by simpa using e1
      have e2 : v2 = .int .i8 wh := by simpa using e2
      have e3 : v3 = .int .u64 root := by simpa using e3
      subst e0 e1 e2 e3
      exact ⟨op, who, wh, root, rfl, by simpa [Lit.wf, IntKind.min, IntKind.max, IntKind.signed, IntKind.bits] using w0, by simpa [Lit.wf, IntKind.min, IntKind.max, IntKind.signed, IntKind.bits] using w1, by simpa [Lit.wf, IntKind.min, IntKind.max, IntKind.signed, IntKind.bits] using w2⟩

theorem open_acts {fuel : Nat} {a : Option Addr} {len cap : Nat} {x : DataW H × List MemPlace} (h : DataW.trod enc Try.prog w base spare held fuel 22 (Value.slice a len cap).cells.toList = some x) : len ≤ 9223372036854775807 ∧ ArgAct w a len := by
  rcases open_slice Try.underlying22 h with ⟨hcs, _⟩ | ⟨ad, l, c, m, n, D, Pl, hcs, _, hl, hm, hmm, _, hi⟩
  · simp [Value.cells] at hcs
    obtain ⟨rfl, rfl, rfl⟩ := hcs
    exact ⟨by omega, fun i hi => by omega⟩
  · simp [Value.cells] at hcs
    obtain ⟨rfl, rfl, rfl⟩ := hcs
    unfold maxLen at hm
    refine ⟨by omega, fun i hlt => ?_⟩
    have him : i < m := by
      rw [hmm]
      split <;> omega
    obtain ⟨cs', hc, ht⟩ := hi i him
    obtain ⟨op, who, wh, root, rfl, b0, b1, b2⟩ := open_act ht
    rw [cells30] at hc
    obtain ⟨_, _, hat⟩ := World.cells?_some hc
    have g : ∀ j, 0 < j → (ad.add (i * 4)).add j = ⟨(ad.add (i * 4)).block, (ad.add (i * 4)).off + j, none⟩ := fun j hj => by
      unfold Addr.add
      simp [Nat.ne_of_gt hj]
    have c0 := hat 0 (by omega)
    have c1 := hat 1 (by omega)
    have c2 := hat 2 (by omega)
    have c3 := hat 3 (by omega)
    rw [g 1 (by omega)] at c1
    rw [g 2 (by omega)] at c2
    rw [g 3 (by omega)] at c3
    have e0 : (ad.add (i * 4)).add 0 = ad.add (i * 4) := by
      unfold Addr.add
      simp
    rw [e0] at c0
    exact ⟨ad, op, who, wh, root, rfl, c0, c1, c2, c3, b0, b1, b2⟩
end

theorem script_row (n : Int) (a : Option Addr) (len cap : Nat) (w : World) (hn : (Lit.int .u8 n).wf = true) (ha : len ≤ 9223372036854775807 ∧ ArgAct w a len) :
    Calls Try.prog 3 #[.int .u8 n, .slice a len cap] w fun e w' => e = .returned (.bool true) ∧ Below w.heap.size w w' := by
  have hb : 0 ≤ n ∧ n ≤ 255 := by simpa [Lit.wf, IntKind.min, IntKind.max, IntKind.signed, IntKind.bits] using hn
  exact (script_walk w n a len cap ha.2 ha.1 hb.1 hb.2).mono fun _ _ ⟨h1, h2⟩ => ⟨h1, ⟨h2.os, h2.tape, h2.output, h2.size, fun i hi => h2.block i hi (by simp)⟩⟩
end Go.Proofs.Ytadncnpgekkjbaa.Script
