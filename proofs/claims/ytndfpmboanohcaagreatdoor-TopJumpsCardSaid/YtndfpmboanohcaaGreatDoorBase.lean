/- Words on memory: a block known whole; which blocks may have turned; a map's store and delete at any key. -/
import Derived.Test.YtndfpmboanohcaaGreatDoorVotes
namespace Go.Proofs.YtndfpmboanohcaaGreatDoor
set_option maxRecDepth 100000
open Go.RowKit Go.Maps SkipPure

/-- Block q of w holds the cells cs of type T. -/
def Blk (w : World) (q : Nat) (cs : Array Value) (T : TypeId) : Prop := w.heap[q]? = some (.cells cs T (0, 0))
section
variable {w w' : World} {q : Nat} {cs : Array Value} {T : TypeId}
theorem Blk.lt (h : Blk w q cs T) : q < w.heap.size := (Array.getElem?_eq_some_iff.1 h).1
theorem Blk.kept {row : Option Nat} (h : Blk w q cs T) (hg : w.grownBy w' row) (hr : row ≠ some q) : Blk w' q cs T := by
  have hl := h.lt
  unfold Blk at *
  rw [hg.block q hl (fun e => hr e.symm)]
  exact h
theorem Blk.g (h : Blk w q cs T) (hg : w.grownBy w' none) : Blk w' q cs T := h.kept hg (by simp)
theorem Blk.alloc (w : World) (cs : Array Value) (T : TypeId) : Blk (w.alloc (.cells cs T)) w.heap.size cs T := by
  unfold Blk
  simpa using (MapKept.heap_alloc w (.cells cs T)).1
theorem Blk.at (h : Blk w q cs T) (i : Nat) : w.cell? ⟨q, i, none⟩ = cs[i]? := cel h i
theorem Blk.fr (h : Blk w q cs T) (i : Nat) : w.frozen? ⟨q, i, none⟩ = false := frz h i
theorem Blk.set (h : Blk w q cs T) (i : Nat) (v : Value) : Blk (w.setCell ⟨q, i, none⟩ v) q (cs.setIfInBounds i v) T := heap_setCell_same w q i cs T v h
theorem Blk.other (h : Blk w q cs T) {b i : Nat} (hne : q ≠ b) (v : Value) : Blk (w.setCell ⟨b, i, none⟩ v) q cs T := by
  unfold Blk at *
  rw [heap_setCell_other _ _ _ _ hne]
  exact h
theorem Blk.drew (h : Blk w q cs T) : Blk w.drew q cs T := h
end
theorem cell_g {w w' : World} {a : Addr} {v : Value} (h : w.cell? a = some v) (hg : w.grownBy w' none) : w'.cell? a = some v := hg.cell h (by simp)

/-- w' is w but for the blocks of S, and for new ones. -/
structure Chg (S : Nat → Prop) (w w' : World) : Prop where
  os : w'.os = w.os
  tape : w'.tape = w.tape
  output : w'.output = w.output
  size : w.heap.size ≤ w'.heap.size
  block : ∀ i, i < w.heap.size → ¬ S i → w'.heap[i]? = w.heap[i]?
section
variable {S S' : Nat → Prop} {w w' w'' : World}
theorem Chg.refl (S : Nat → Prop) (w : World) : Chg S w w := ⟨rfl, rfl, rfl, Nat.le_refl _, fun _ _ _ => rfl⟩
theorem Chg.of (h : w.grownBy w' none) : Chg S w w' := ⟨h.os, h.tape, h.output, h.size, fun i hi _ => h.block i hi (by simp)⟩
theorem Chg.one {b : Nat} (h : w.grownBy w' (some b)) (hb : S b) : Chg S w w' := ⟨h.os, h.tape, h.output, h.size, fun i hi hn => h.block i hi (fun e => hn (by cases e; exact hb))⟩
theorem Chg.new {b : Nat} (h : w.grownBy w' (some b)) (hb : w.heap.size ≤ b) : w.grownBy w' none := ⟨h.os, h.tape, h.output, h.size, fun i hi _ => h.block i hi (fun e => by cases e; omega)⟩
theorem Chg.trans (h : Chg S w w') (k : Chg S w' w'') : Chg S w w'' :=
  ⟨k.os.trans h.os, k.tape.trans h.tape, k.output.trans h.output, Nat.le_trans h.size k.size, fun i hi hn => (k.block i (Nat.lt_of_lt_of_le hi h.size) hn).trans (h.block i hi hn)⟩
/-- A second step may turn what is new since the first world. -/
theorem Chg.then (h : Chg S w w') (k : Chg S' w' w'') (hs : ∀ i, S' i → S i ∨ w.heap.size ≤ i) : Chg S w w'' :=
  ⟨k.os.trans h.os, k.tape.trans h.tape, k.output.trans h.output, Nat.le_trans h.size k.size, fun i hi hn => (k.block i (Nat.lt_of_lt_of_le hi h.size) (fun e => (hs i e).elim hn (fun e => by omega))).trans (h.block i hi hn)⟩
theorem Chg.mono (h : Chg S w w') (hs : ∀ i, S i → S' i) : Chg S' w w' := ⟨h.os, h.tape, h.output, h.size, fun i hi hn => h.block i hi (fun e => hn (hs i e))⟩
theorem Chg.less (h : Chg S w w') (hs : ∀ i, i < w.heap.size → S i → S' i) : Chg S' w w' := ⟨h.os, h.tape, h.output, h.size, fun i hi hn => h.block i hi (fun e => hn (hs i hi e))⟩
theorem Chg.non (h : Chg S w w') (hs : ∀ i, S i → w.heap.size ≤ i) : w.grownBy w' none := ⟨h.os, h.tape, h.output, h.size, fun i hi _ => h.block i hi (fun e => by have := hs i e; omega)⟩
theorem Chg.set {b i : Nat} (v : Value) (h : Chg S w w') (hb : S b ∨ w.heap.size ≤ b) : Chg S w (w'.setCell ⟨b, i, none⟩ v) :=
  h.then (S' := fun j => j = b) (Chg.one (gset w' b i v) rfl) (fun j e => by subst e; exact hb)
theorem Chg.blk {q : Nat} {cs : Array Value} {T : TypeId} (h : Chg S w w') (hb : Blk w q cs T) (hq : ¬ S q) : Blk w' q cs T := (h.block q hb.lt hq).trans hb
theorem Chg.cell {q i : Nat} {v : Value} (h : Chg S w w') (hc : w.cell? ⟨q, i, none⟩ = some v) (hq : ¬ S q) : w'.cell? ⟨q, i, none⟩ = some v := by
  have hl : q < w.heap.size := by
    rcases Nat.lt_or_ge q w.heap.size with hl | hl
    · exact hl
    · unfold World.cell? at hc
      rw [Array.getElem?_eq_none (by exact hl)] at hc
      simp at hc
  unfold World.cell? at *
  simp only at *
  rw [h.block q hl hq]
  exact hc
theorem Chg.raw {P : Program} {kt : TypeId} {b n : Nat} {F : Int → Option Value} (h : Chg S w w') (hm : RawMap P kt w b n F) (hb : ¬ S b) : RawMap P kt w' b n F := by
  have hl := hm.lt
  obtain ⟨D, ⟨es, clock, hb2, Ft, hs, hD⟩, h2⟩ := hm
  exact ⟨D, ⟨es, clock, (h.block b hl hb).trans hb2, Ft, hs, hD⟩, h2⟩
theorem Chg.tree {p b n : Nat} {f : Int} {F : Int → Option (Int × Int × Int)} (h : Chg S w w') (ht : TreeAt w p b n f F) (hp : ¬ S p) (hb : ¬ S b) : TreeAt w' p b n f F :=
  ⟨ht.1, h.blk (q := p) ht.2.1 hp, h.raw ht.2.2 hb⟩
theorem Chg.votes {g n : Nat} {V : Nat → Ent} (h : Chg S w w') (hv : VAt w g n V) (hb : ¬ S g) : VAt w' g n V := by
  have hl := hv.lt
  obtain ⟨cs, hb2, h2, h3⟩ := hv
  exact ⟨cs, (h.block g hl hb).trans hb2, h2, h3⟩
end

section
variable {P : Program} {kt et mt : TypeId} {w : World} {b n : Nat} {F : Int → Option Value}
/-- A store at any key. -/
theorem RawMap.store (h : RawMap P kt w b n F) (hk : P.underlying kt = some (.int .u64)) (ht : P.underlying mt = some (.map kt et)) (hn : n < maxLen) {k : Int} (hin : inU k) (v : Value) :
    ∃ w', (Instr.mapUpdate mt (.map (some b)) (.int .u64 k) v).run P w = .ok () w' ∧ RawMap P kt w' b (if (F k).isSome then n else n + 1) (upd F k v) ∧ w.grownBy w' (some b) := by
  obtain ⟨D, h, hH, hs⟩ := h
  obtain ⟨w', hrun, h', hg⟩ := h.update (int_keyed hk) ht hn (keyOf_int_mk hk (kk_wf hin)) (val := v) (d := .held v) (ps := []) rfl
  have h2 := size_put (k := kk k) (h.tidy (int_keyed hk)) (.held v)
  have h3 : (Lit.int .u64 k) = kk k := rfl
  rw [h3] at h'
  refine ⟨w', hrun, ⟨D.put (kk k) (.held v), ?_, holdsAs_put h.isMap hH hin v, ?_⟩, hg⟩
  · obtain ⟨es, clock, e1, e2, e3, e4⟩ := h'
    refine ⟨es, clock, e1, e2, ?_, e4⟩
    have e5 : Maps.size (D.put (kk k) (.held v)) = es.size := by
      rw [e4]
      exact length_read es
    rw [← e5, h2]
    cases hF : F k with
    | none => rw [(hH k hin).1 hF]; simp [hs]
    | some u => rw [((hH k hin).2 u hF).1]; simp [hs]
  · rw [h2]
    cases hF : F k with
    | none => rw [(hH k hin).1 hF]; simp [hs]
    | some u => rw [((hH k hin).2 u hF).1]; simp [hs]

def updel (F : Int → Option Value) (k : Int) : Int → Option Value := fun j => if j = k then none else F j
/-- delete(m, k). -/
theorem RawMap.drop (h : RawMap P kt w b n F) (hk : P.underlying kt = some (.int .u64)) (ht : P.underlying mt = some (.map kt et)) {k : Int} (hin : inU k) (ty : TypeId) :
    ∃ w', (Builtin.delete_ #[mt, kt] ty #[.map (some b), .int .u64 k]).run P w = .ok (.tuple #[]) w' ∧ RawMap P kt w' b (if (F k).isSome then n - 1 else n) (updel F k) ∧ w.grownBy w' (some b) := by
  obtain ⟨D, h, hH, hs⟩ := h
  obtain ⟨w', hrun, h', hg⟩ := h.drop (int_keyed hk) ht (keyOf_int_mk hk (kk_wf hin)) ty
  have h2 := size_del (k := kk k) (h.tidy (int_keyed hk))
  have h3 : (Lit.int .u64 k) = kk k := rfl
  rw [h3] at h'
  have h5 : Maps.size (D.del (kk k)) = if (F k).isSome then n - 1 else n := by
    cases hF : F k with
    | none => rw [(hH k hin).1 hF] at h2; simp at h2; simp [h2, hs]
    | some u => rw [((hH k hin).2 u hF).1] at h2; simp at h2; simp; omega
  refine ⟨w', hrun, ⟨D.del (kk k), ?_, ?_, h5⟩, hg.grown⟩
  · obtain ⟨es, clock, e1, e2, e3, e4⟩ := h'
    refine ⟨es, clock, e1, e2, ?_, e4⟩
    have e5 : Maps.size (D.del (kk k)) = es.size := by
      rw [e4]
      exact length_read es
    omega
  · intro j hj
    unfold updel
    by_cases e : j = k
    · subst e
      simp only [if_true]
      exact ⟨fun _ => has_del_same, fun v hv => by cases hv⟩
    · rw [if_neg e]
      have e2 := kk_ne e
      obtain ⟨h1, h2⟩ := hH j hj
      exact ⟨fun hn => by rw [has_del_other e2]; exact h1 hn, fun v hv => ⟨by rw [has_del_other e2]; exact (h2 v hv).1, fun z => by rw [atKey_del_other e2]; exact (h2 v hv).2 z⟩⟩
end

section
variable {P : Program} {w : World} {ops : Array Oper} {rest : List Oper} {o : Oper} {a : Act} {Q : Exit → Act → World → Prop} {kt et : TypeId} {b n : Nat} {F : Int → Option Value}
/-- 'm[k] = v' at any key, at the operation. -/
theorem wpList_store_any (h : RawMap P kt w b n F) (hg : o.guard = none) (m x v : Operand) (t : TypeId) (hop : o.op = Op.mapUpdate t m x v ∨ o.op = Op.insert t m x v)
    (hk : P.underlying kt = some (.int .u64)) (ht : P.underlying t = some (.map kt et)) (hn : n < maxLen) {k : Int} (hin : inU k) (val : Value)
    (hm : a.eval m = .map (some b)) (hx : a.eval x = .int .u64 k) (hv : a.eval v = val)
    (hK : ∀ w', RawMap P kt w' b (if (F k).isSome then n else n + 1) (upd F k val) → w.grownBy w' (some b) → wpList P ops Q rest (a.put o.dst undef) w') :
    wpList P ops Q (o :: rest) a w := by
  refine wpList_plain hg fun K' hK' => ?_
  obtain ⟨w', hrun, r1, r2⟩ := h.store hk ht hn hin val
  unfold Oper.wp
  rcases hop with hop | hop
  all_goals
    simp [execOp, hop, hm, hx, hv, hrun, Result.andThen]
    exact hK' _ _ (hK w' r1 r2)
/-- 'delete(m, k)', at the operation. -/
theorem wpList_drop_any (h : RawMap P kt w b n F) (hg : o.guard = none) (m x : Operand) (t : TypeId) (hop : o.op = Op.call { callee := Callee.builtin Builtin.delete, args := #[m, x], argTypes := #[t, kt] })
    (hk : P.underlying kt = some (.int .u64)) (ht : P.underlying t = some (.map kt et)) {k : Int} (hin : inU k)
    (hm : a.eval m = .map (some b)) (hx : a.eval x = .int .u64 k)
    (hK : ∀ w', RawMap P kt w' b (if (F k).isSome then n - 1 else n) (updel F k) → w.grownBy w' (some b) → wpList P ops Q rest (a.put o.dst (.tuple #[])) w') :
    wpList P ops Q (o :: rest) a w := by
  refine wpList_plain hg fun K' hK' => ?_
  obtain ⟨w', hrun, r1, r2⟩ := h.drop hk ht hin o.type
  unfold Oper.wp
  simp [execOp, hop, resolve, invoke, builtin, hm, hx, hrun, Result.andThen]
  exact hK' _ _ (hK w' r1 r2)
end
end Go.Proofs.YtndfpmboanohcaaGreatDoor
