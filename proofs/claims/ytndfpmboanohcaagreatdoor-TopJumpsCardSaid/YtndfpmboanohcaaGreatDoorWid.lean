/- A load of a wide struct, as one step. -/
import Derived.Test.YtndfpmboanohcaaGreatDoorReg2
namespace Go.Proofs.YtndfpmboanohcaaGreatDoor
open Go

theorem run_loadVar_blk {P : Program} {w : World} {g off : Nat} {full : Array Value} {T ty : TypeId} (h : Blk w g full T) (d : TypeDesc)
    (hu : P.underlying ty = some d) (hd : (match d with | .struct _ | .array _ _ => true | _ => false) = true) (cs : Array Value) (hi : (P.info? ty).map (·.size) = some cs.size) (hcs : (full.toList.drop off).take cs.size = cs.toList) :
    (loadVar ty ⟨g, off, none⟩).run P w = .ok (.agg cs) w := by
  have hl : (loadCells ⟨g, off, none⟩ cs.toList.length).run P w = .ok cs.toList.toArray w :=
    run_loadCells_list (P := P) (w := w) ⟨g, off, none⟩ cs.toList (fun j v hv => by
      have hadd : (⟨g, off, none⟩ : Addr).add j = ⟨g, off + j, none⟩ := by unfold Addr.add; split <;> simp_all
      rw [hadd, Blk.at h, ← hcs] at *
      rw [← hv, List.getElem?_take]
      split
      · simp
      · next hn =>
        rw [List.getElem?_take, if_neg hn] at hv
        cases hv)
  cases hq : P.info? ty with
  | none => simp [hq] at hi
  | some i =>
    have hs : i.size = cs.size := by simpa [hq] using hi
    have hagg : (isAgg ty).run P w = .ok true w := by
      unfold isAgg
      rw [Sem.run_bind, run_underlying hu w]
      cases d <;> simp_all
    simp only [Array.length_toList, Array.toArray_toList] at hl
    simp [loadVar, Sem.run_bind, hagg, sizeOf, typeInfo, hq, hs, hl]
theorem exec_load_blk {P : Program} {o : Oper} {a : Act} {w : World} {g off : Nat} {full : Array Value} {T ty : TypeId} (h : Blk w g full T) (ho : ∃ x, o.op = .load ty x ∧ a.eval x = .pointer (some ⟨g, off, none⟩)) (d : TypeDesc)
    (hu : P.underlying ty = some d) (hd : (match d with | .struct _ | .array _ _ => true | _ => false) = true) (cs : Array Value) (hi : (P.info? ty).map (·.size) = some cs.size) (hcs : (full.toList.drop off).take cs.size = cs.toList) :
    (execOp a.eval o).run P w = .ok (.value (.agg cs)) w := by
  obtain ⟨x, ho, hx⟩ := ho
  unfold execOp
  simp only [ho, hx, Instr.loadAt, Instr.sureAddr, Sem.run_bind, Sem.run_pure, Result.andThen_ok, run_loadVar_blk h d hu hd cs hi hcs]
theorem exec_load_all {P : Program} {o : Oper} {a : Act} {w : World} {g : Nat} {cs : Array Value} {T ty : TypeId} (h : Blk w g cs T) (ho : ∃ x, o.op = .load ty x ∧ a.eval x = .pointer (some ⟨g, 0, none⟩)) (d : TypeDesc)
    (hu : P.underlying ty = some d) (hd : (match d with | .struct _ | .array _ _ => true | _ => false) = true) (hi : (P.info? ty).map (·.size) = some cs.size) :
    (execOp a.eval o).run P w = .ok (.value (.agg cs)) w := exec_load_blk h ho d hu hd cs hi (by simp [← Array.length_toList])
theorem wpList_load_blk {P : Program} {ops : Array Oper} {rest : List Oper} {o : Oper} {a : Act} {w : World} {Q : Exit → Act → World → Prop} {g off : Nat} {full : Array Value} {T ty : TypeId} (h : Blk w g full T) (hgd : o.guard = none) (x : Operand) (ho : o.op = .load ty x) (hx : a.eval x = .pointer (some ⟨g, off, none⟩)) (d : TypeDesc)
    (hu : P.underlying ty = some d) (hd : (match d with | .struct _ | .array _ _ => true | _ => false) = true) (cs : Array Value) (hi : (P.info? ty).map (·.size) = some cs.size) (hcs : (full.toList.drop off).take cs.size = cs.toList)
    (hK : wpList P ops Q rest (a.put o.dst (.agg cs)) w) : wpList P ops Q (o :: rest) a w :=
  wpList_plain hgd fun K' hK' => by
    unfold Oper.wp
    rw [exec_load_blk h ⟨x, ho, hx⟩ d hu hd cs hi hcs]
    exact hK' _ _ hK
theorem step_store_blk {P : Program} {ops : Array Oper} {o : Oper} {a : Act} {w : World} {K : Act → World → Prop} {Q : Exit → Act → World → Prop} {E : Prop} {g : Nat} {old : Array Value} {T ty : TypeId} (h : Blk w g old T) (hgd : o.guard = none)
    (cells : Array Value) (ho : ∃ x y, o.op = .store ty x y ∧ a.eval x = .pointer (some ⟨g, 0, none⟩) ∧ a.eval y = .agg cells) (hi : (P.info? ty).map (·.size) = some cells.size) (hold : old.size = cells.size) (h1 : cells.all (·.oneCell') = true)
    (hK : ∀ w', Blk w' g cells T → w.grownBy w' (some g) → K (a.put o.dst undef) w') : if Region.wanted o (yielded ops a.tmps) = true then Oper.wp P o a w K Q else E := by
  have hw : Region.wanted o (yielded ops a.tmps) = true := by simp [Region.wanted, hgd]
  rw [if_pos hw]
  obtain ⟨x, y, ho, hx, hy⟩ := ho
  exact wp_store_row ty x y ho g cells hx hy T old h hi hold h1 (hK _ (setRow_heap w g old cells T (0, 0) h) ⟨rfl, rfl, rfl, by simp, fun k _ hk => setRow_other w g k cells (fun e => hk (by rw [e]))⟩)
theorem wpList_store_new {P : Program} {ops : Array Oper} {rest : List Oper} {o : Oper} {a : Act} {w : World} {Q : Exit → Act → World → Prop} {old : Array Value} {T ty : TypeId} (hgd : o.guard = none)
    (cells : Array Value) (ho : ∃ x y, o.op = .store ty x y ∧ a.eval x = .pointer (some ⟨w.heap.size, 0, none⟩) ∧ a.eval y = .agg cells) (hi : (P.info? ty).map (·.size) = some cells.size) (hold : old.size = cells.size) (h1 : cells.all (·.oneCell') = true)
    (hK : ∀ w', Blk w' w.heap.size cells T → w.grownBy w' none → wpList P ops Q rest (a.put o.dst undef) w') : wpList P ops Q (o :: rest) a (w.alloc (.cells old T)) := by
  obtain ⟨x, y, ho, hx, hy⟩ := ho
  have hb := Blk.alloc w old T
  refine wpList_store_row hgd ty x y ho w.heap.size cells hx hy T old hb hi hold h1 (hK _ (setRow_heap _ w.heap.size old cells T (0, 0) hb) ?_)
  have g1 := World.grownBy_alloc w (.cells old T) none
  exact ⟨g1.os, g1.tape, g1.output, by simp, fun k hk _ => (setRow_other _ w.heap.size k cells (by omega)).trans (g1.block k hk (by simp))⟩
end Go.Proofs.YtndfpmboanohcaaGreatDoor
