/- Words on a map keyed by uint64 whose elements are taken as they lie: what it holds is a function from keys to values. -/
import Derived.Test.YtndfpmboanohcaaGreatDoorProg
import Derived.Maps.OwnSet
import Derived.WalkKit
namespace Go.Proofs.YtndfpmboanohcaaGreatDoor
set_option maxRecDepth 100000
open Go.RowKit Go.Maps

/-- An element as it lies. -/
def rawE (v : Value) : Option (DataW Value × List MemPlace) := some (.held v, [])
/-- The key k as it reads. -/
def kk (k : Int) : Lit := .int .u64 k
def inU (k : Int) : Prop := 0 ≤ k ∧ k ≤ 18446744073709551615
theorem kk_wf {k : Int} (h : inU k) : (Lit.int .u64 k).wf = true := by
  obtain ⟨h0, h1⟩ := h
  simp [Lit.wf, IntKind.min, IntKind.max, IntKind.signed, IntKind.bits]; omega
theorem kk_ne {k j : Int} (h : j ≠ k) : kk j ≠ kk k := by
  unfold kk
  intro e
  injection e with _ e
  exact h e

def HoldsAs (D : DataW Value) (F : Int → Option Value) : Prop :=
  ∀ k, inU k → (F k = none → Maps.has D (kk k) = false) ∧ (∀ v, F k = some v → Maps.has D (kk k) = true ∧ ∀ z, D.atKey (kk k) z = .held v)

/-- Block b of w is a map of n entries that holds what F says. -/
def RawMap (P : Program) (kt : TypeId) (w : World) (b n : Nat) (F : Int → Option Value) : Prop :=
  ∃ D : DataW Value, w.ownsMap P kt rawE b n D ∧ HoldsAs D F ∧ Maps.size D = n

def upd (F : Int → Option Value) (k : Int) (v : Value) : Int → Option Value := fun j => if j = k then some v else F j

section
variable {P : Program} {kt et mt : TypeId} {w : World} {b n : Nat} {F : Int → Option Value}

theorem RawMap.lt (h : RawMap P kt w b n F) : b < w.heap.size := by
  obtain ⟨D, h, _⟩ := h
  exact h.lt

theorem RawMap.made (P : Program) (kt : TypeId) (w : World) : RawMap P kt (w.alloc (.map #[] 0)) w.heap.size 0 (fun _ => none) :=
  ⟨.map [], World.ownsMap_made w P kt rawE, fun k _ => ⟨fun _ => rfl, fun v h => by cases h⟩, rfl⟩

theorem RawMap.kept {w' : World} {row : Option Nat} (h : RawMap P kt w b n F) (hg : w.grownBy w' row) (hne : some b ≠ row) : RawMap P kt w' b n F := by
  obtain ⟨D, h, h2⟩ := h
  exact ⟨D, h.kept hg hne, h2⟩

theorem RawMap.setCell (h : RawMap P kt w b n F) {a : Addr} (ha : b ≠ a.block) (u : Value) : RawMap P kt (w.setCell a u) b n F := by
  obtain ⟨D, h, h2⟩ := h
  exact ⟨D, h.setCell ha u, h2⟩

theorem RawMap.look_ok (h : RawMap P kt w b n F) (hk : P.underlying kt = some (.int .u64)) (ht : P.underlying mt = some (.map kt et)) {z : Value} (hz : (zeroValue et).run P w = .ok z w) {k : Int} (hin : inU k) :
    (Instr.lookup mt (.map (some b)) (.int .u64 k) true).run P w = .ok (.tuple #[(F k).getD z, .bool (F k).isSome]) w := by
  obtain ⟨D, h, hH, _⟩ := h
  obtain ⟨v, ps, hrun, hv⟩ := h.look_ok (int_keyed hk) ht hz (zd := .held z) (zp := []) rfl (keyOf_int_mk hk (kk_wf hin))
  rw [hrun]
  obtain ⟨hn, hs⟩ := hH k hin
  cases hF : F k with
  | none =>
    have h1 := hn hF
    have h2 := atKey_of_not_has h1 (.held z)
    have h3 : (Lit.int .u64 k) = kk k := rfl
    rw [h3, h2] at hv
    rw [h3, h1]
    simp [rawE] at hv
    obtain ⟨rfl, _⟩ := hv
    rfl
  | some u =>
    obtain ⟨h1, h2⟩ := hs u hF
    have h3 : (Lit.int .u64 k) = kk k := rfl
    rw [h3, h2] at hv
    rw [h3, h1]
    simp [rawE] at hv
    obtain ⟨rfl, _⟩ := hv
    rfl

theorem RawMap.look (h : RawMap P kt w b n F) (hk : P.underlying kt = some (.int .u64)) (ht : P.underlying mt = some (.map kt et)) {z : Value} (hz : (zeroValue et).run P w = .ok z w) {k : Int} (hin : inU k) :
    (Instr.lookup mt (.map (some b)) (.int .u64 k) false).run P w = .ok ((F k).getD z) w := by
  obtain ⟨D, h, hH, _⟩ := h
  obtain ⟨v, ps, hrun, hv⟩ := h.lookup (int_keyed hk) ht hz (zd := .held z) (zp := []) rfl (keyOf_int_mk hk (kk_wf hin))
  rw [hrun]
  obtain ⟨hn, hs⟩ := hH k hin
  have h3 : (Lit.int .u64 k) = kk k := rfl
  cases hF : F k with
  | none =>
    rw [h3, atKey_of_not_has (hn hF) (.held z)] at hv
    simp [rawE] at hv
    obtain ⟨rfl, _⟩ := hv
    rfl
  | some u =>
    rw [h3, (hs u hF).2] at hv
    simp [rawE] at hv
    obtain ⟨rfl, _⟩ := hv
    rfl

theorem RawMap.len (h : RawMap P kt w b n F) (ht : P.underlying mt = some (.map kt et)) (ty : TypeId) : (Builtin.len_ #[mt] ty #[.map (some b)]).run P w = .ok (.int .i64 n) w := by
  obtain ⟨D, h, _, hs⟩ := h
  rw [← hs]
  exact h.len ht ty

theorem holdsAs_put {D : DataW Value} (hD : IsMap D) (h : HoldsAs D F) {k : Int} (hin : inU k) (v : Value) : HoldsAs (D.put (kk k) (.held v)) (upd F k v) := by
  intro j hj
  by_cases e : j = k
  · subst e
    refine ⟨fun h => by simp [upd] at h, fun u hu => ?_⟩
    simp [upd] at hu
    subst hu
    exact ⟨has_put_same hD (by exact trivial) _, fun z => atKey_put_same hD (by exact trivial) _ _⟩
  · have e2 := kk_ne e
    obtain ⟨h1, h2⟩ := h j hj
    refine ⟨fun h => ?_, fun u hu => ?_⟩
    · simp [upd, e] at h
      rw [has_put_other e2]; exact h1 h
    · simp [upd, e] at hu
      obtain ⟨g1, g2⟩ := h2 u hu
      exact ⟨by rw [has_put_other e2]; exact g1, fun z => by rw [atKey_put_other e2]; exact g2 z⟩

/-- A store at a key that is not there. -/
theorem RawMap.store_new (h : RawMap P kt w b n F) (hk : P.underlying kt = some (.int .u64)) (ht : P.underlying mt = some (.map kt et)) (hn : n < maxLen) {k : Int} (hin : inU k) (hF : F k = none) (v : Value) :
    ∃ w', (Instr.mapUpdate mt (.map (some b)) (.int .u64 k) v).run P w = .ok () w' ∧ RawMap P kt w' b (n + 1) (upd F k v) ∧ w.grownBy w' (some b) := by
  obtain ⟨D, h, hH, hs⟩ := h
  obtain ⟨w', hrun, h', hg⟩ := h.update (int_keyed hk) ht hn (keyOf_int_mk hk (kk_wf hin)) (val := v) (d := .held v) (ps := []) rfl
  refine ⟨w', hrun, ⟨_, h', holdsAs_put h.isMap hH hin v, ?_⟩, hg⟩
  have := size_put (k := kk k) (h.tidy (int_keyed hk)) (.held v)
  rw [(hH k hin).1 hF] at this
  show Maps.size (D.put (kk k) (.held v)) = n + 1
  rw [this, hs]; rfl

end

section
variable {P : Program} {w : World} {ops : Array Oper} {rest : List Oper} {o : Oper} {a : Act} {Q : Exit → Act → World → Prop} {kt et : TypeId} {b n : Nat} {F : Int → Option Value}
/-- 'm[k] = v' at a key that is not there, at the operation. -/
theorem wpList_store_raw (h : RawMap P kt w b n F) (hg : o.guard = none) (m x v : Operand) (t : TypeId) (hop : o.op = Op.mapUpdate t m x v ∨ o.op = Op.insert t m x v)
    (hk : P.underlying kt = some (.int .u64)) (ht : P.underlying t = some (.map kt et)) (hn : n < maxLen) {k : Int} (hin : inU k) (hF : F k = none) (val : Value)
    (hm : a.eval m = .map (some b)) (hx : a.eval x = .int .u64 k) (hv : a.eval v = val)
    (hK : ∀ w', RawMap P kt w' b (n + 1) (upd F k val) → w.grownBy w' (some b) → wpList P ops Q rest (a.put o.dst undef) w') :
    wpList P ops Q (o :: rest) a w := by
  refine wpList_plain hg fun K' hK' => ?_
  obtain ⟨w', hrun, r1, r2⟩ := h.store_new hk ht hn hin hF val
  unfold Oper.wp
  rcases hop with hop | hop
  all_goals
    simp [execOp, hop, hm, hx, hv, hrun, Result.andThen]
    exact hK' _ _ (hK w' r1 r2)
end
end Go.Proofs.YtndfpmboanohcaaGreatDoor
