/- A region that draws its order, walked by hand: loads are taken first under a condition on the world that need not hold any more behind the last operation (a store into what was loaded). -/
import Derived.Test.YtndfpmboanohcaaGreatDoorLed2
namespace Go.Proofs.YtndfpmboanohcaaGreatDoor
open Go
section
variable {P : Program} {ops : Array Oper} {Q : Exit → Act → World → Prop} {md : Region.Mode} {S : World → Prop}
def wpAnyL (P : Program) (md : Region.Mode) (ops : Array Oper) (Q : Exit → Act → World → Prop) (S : World → Prop) (n : Nat) : Nat → Array Bool → Act → World → Prop
 | 0, listed, a, w => Region.ready md ops listed = [] ∧ Q .normal a w
 | fuel + 1, listed, a, w =>
  (Region.ready md ops listed = [] → Q .normal a w) ∧
  ∀ i ∈ Region.ready md ops listed, wpOp P ops Q i (fun a' w' => (S w' ∨ i = n) ∧ wpAnyL P md ops Q S n fuel (listed.setIfInBounds i true) a' w') a w
theorem wpAny_of_last {n : Nat} : ∀ (fuel : Nat) (listed : Array Bool) (a : Act) (w : World), wpAnyL P md ops Q S n fuel listed a w → wpAny P md ops Q fuel listed a w
 | 0, _, _, _, h => h
 | fuel + 1, _, _, _, h => ⟨h.1, fun i hi => wpOp_mono (fun a' w' h' => wpAny_of_last fuel _ a' w' h'.2) (h.2 i hi)⟩
def waitsB (md : Region.Mode) (ops : Array Oper) (n i : Nat) : Bool :=
 match ops[n]? with
 | none => false
 | some o => o.after.any fun e => Region.binds md e && e.on == i
theorem waits_not_ready {n i : Nat} {listed : Array Bool} (hw : waitsB md ops n i = true) (hi : i ∈ Region.ready md ops listed) : ¬ n ∈ Region.ready md ops listed := by
 intro hn
 obtain ⟨_, o, ho, hall⟩ := mem_ready.1 hn
 unfold waitsB at hw
 rw [ho] at hw
 rw [Array.any_eq_true'] at hw
 obtain ⟨e, he, hb⟩ := hw
 simp only [Bool.and_eq_true, beq_iff_eq] at hb
 have h1 := hall e he hb.1
 have h0 := (mem_ready.1 hi).1
 rw [hb.2] at h1
 rcases Nat.lt_or_ge i listed.size with h' | h'
 ·simp [h'] at h0 h1; rw [h0] at h1; cases h1
 ·simp [Array.getElem?_eq_none h'] at h1
theorem wpAnyL_first {n i : Nat} {oi : Oper} {v : Value} (hi : ops[i]? = some oi) (hw : waitsB md ops n i = true) (hsel : ∀ (j : Nat) (o : Oper) cs b, ops[j]? = some o → o.op ≠ .select cs b)
  (hQ : ∀ c a w, Q (.panic c) (a.put oi.dst v) w → Q (.panic c) a w) :
  ∀ (fuel : Nat) (listed : Array Bool) (a : Act) (w : World),
   (∀ j oj, ops[j]? = some oj → j ≠ i → listed.getD j true = false → (∀ e ∈ oj.after, Region.binds md e = true → e.on ≠ i) → oi.apart ops oj = true) →
   i ∈ Region.ready md ops listed → YieldsIf P ops S oi v a → S w →
   wpAnyL P md ops Q S n fuel (listed.setIfInBounds i true) (a.put oi.dst v) w → wpAnyL P md ops Q S n (fuel + 1) listed a w := by
 intro fuel
 induction fuel with
 | zero =>
  intro listed a w _ hr hy hS H
  refine ⟨fun h => (by rw [h] at hr; cases hr), fun j hj => ?_⟩
  by_cases hji : j = i
  ·subst hji; exact hy.wpOp hi hS ⟨.inl hS, H⟩
  ·have := ready_mono hj hji
   rw [H.1] at this
   cases this
 | succ fuel ih =>
  intro listed a w hfree hr hy hS H
  refine ⟨fun h => (by rw [h] at hr; cases hr), fun j hj => ?_⟩
  by_cases hji : j = i
  ·subst hji; exact hy.wpOp hi hS ⟨.inl hS, H⟩
  ·have hjn : j ≠ n := fun e => waits_not_ready hw hr (e ▸ hj)
   have h1 := H.2 j (ready_mono hj hji)
   obtain ⟨hjun, oj, hoj, hall⟩ := mem_ready.1 hj
   have hnot : ∀ e ∈ oj.after, Region.binds md e = true → e.on ≠ i := fun e he hb heq => by
    have h1 := hall e he hb
    have h0 := (mem_ready.1 hr).1
    rw [heq] at h1
    rcases Nat.lt_or_ge i listed.size with h' | h'
    ·simp [h'] at h0 h1; rw [h0] at h1; cases h1
    ·simp [Array.getElem?_eq_none h'] at h1
   have h2 := wpOp_putIf hoj (hfree j oj hoj hji hjun hnot) (fun cs b => hsel i oi cs b hi) (fun cs b => hsel j oj cs b hoj) hQ hy h1
   have hfree' : ∀ k ok, ops[k]? = some ok → k ≠ i → (listed.setIfInBounds j true).getD k true = false →
     (∀ e ∈ ok.after, Region.binds md e = true → e.on ≠ i) → oi.apart ops ok = true := fun k ok hk hki hun hno => by
    refine hfree k ok hk hki ?_ hno
    by_cases hjk : j = k
    ·subst hjk; exact hjun
    ·rw [getD_set_ne true hjk] at hun; exact hun
   refine wpOp_mono (fun a' w' h3 => ?_) h2
   have hs : S w' := h3.2.1.resolve_right hjn
   refine ⟨.inl hs, ih (listed.setIfInBounds j true) a' w' hfree' (ready_mono hr (Ne.symm hji)) h3.1 hs ?_⟩
   rw [Array.setIfInBounds_comm _ _ hji]
   exact h3.2.2
theorem wpAnyL_take {n i : Nat} {oi : Oper} {v : Value} {fuel : Nat} {listed : Array Bool} {a : Act} {w : World} (hi : ops.toList[i]? = some oi)
  (hr : (Region.ready md ops listed).contains i = true) (hs : Region.noSelect ops = true) (hf : Region.free md ops listed i = true) (hw : waitsB md ops n i = true)
  (hQ : ∀ c a w, Q (.panic c) (a.put oi.dst v) w → Q (.panic c) a w) (hy : YieldsIf P ops S oi v a) (hS : S w)
  (h : wpAnyL P md ops Q S n fuel (listed.setIfInBounds i true) (a.put oi.dst v) w) : wpAnyL P md ops Q S n (fuel + 1) listed a w :=
 wpAnyL_first (by simpa using hi) hw (Region.noSelect_spec hs) hQ fuel listed a w (Region.free_spec (by simpa using hi) hf) (by simpa using hr) hy hS h
def AllReadyL (P : Program) (md : Region.Mode) (ops : Array Oper) (Q : Exit → Act → World → Prop) (S : World → Prop) (n fuel : Nat) (listed : Array Bool) (a : Act) (w : World) (rs : List Nat) : Prop :=
 ∀ i ∈ rs, wpOp P ops Q i (fun a' w' => (S w' ∨ i = n) ∧ wpAnyL P md ops Q S n fuel (listed.setIfInBounds i true) a' w') a w
theorem AllReadyL.nil {n fuel : Nat} {listed : Array Bool} {a : Act} {w : World} : AllReadyL P md ops Q S n fuel listed a w [] := fun _ h => by cases h
theorem AllReadyL.cons {n fuel : Nat} {listed : Array Bool} {a : Act} {w : World} {i : Nat} {o : Oper} {rs : List Nat} (ho : ops.toList[i]? = some o)
  (h : ∀ K' : Act → World → Prop, Shut (∀ a w, (S w ∨ i = n) → wpAnyL P md ops Q S n fuel (listed.setIfInBounds i true) a w → K' a w) → if Region.wanted o (yielded ops a.tmps) = true then Oper.wp P o a w K' Q else K' (a.put o.dst undef) w)
  (hs : AllReadyL P md ops Q S n fuel listed a w rs) : AllReadyL P md ops Q S n fuel listed a w (i :: rs) := fun j hj => by
 rcases List.mem_cons.1 hj with rfl | hj
 ·exact wpOp_step (by simpa using ho) (fun K' hK => h K' (fun a w hS hW => hK a w ⟨hS, hW⟩))
 ·exact hs j hj
theorem wpAnyL_ready {n : Nat} {rs : List Nat} {fuel : Nat} {listed : Array Bool} {a : Act} {w : World} (hr : Region.ready md ops listed = rs) (hne : rs ≠ [])
  (h : AllReadyL P md ops Q S n fuel listed a w rs) : wpAnyL P md ops Q S n (fuel + 1) listed a w :=
 ⟨fun h0 => absurd (hr ▸ h0) hne, hr ▸ h⟩
theorem wpAnyL_done {n : Nat} {listed : Array Bool} {a : Act} {w : World} (hr : Region.ready md ops listed = []) (h : Q .normal a w) : ∀ fuel, wpAnyL P md ops Q S n fuel listed a w
 | 0 => ⟨hr, h⟩
 | _ + 1 => ⟨fun _ => h, by rw [hr]; simp⟩
theorem wp_region_last (S : World → Prop) (n : Nat) {id : Nat} {a : Act} {w : World} (hm : P.follows .mixedOrders = true) (hS : S w.drew)
  (h : S w.drew → wpAnyL P .any ops Q S n ops.size (Array.replicate ops.size false) a w.drew) : (Code.region id ops true).wp P Q a w :=
 wp_region_any hm (wpAny_of_last _ _ _ _ (h hS))
theorem wL {n : Nat} {oi : Oper} {fuel : Nat} {listed : Array Bool} {a : Act} {w : World} (i : Nat) (v : Value)
  (hv : ∀ w, S w → (execOp a.eval oi).run P w = .ok (.value v) w) (hS : S w)
  (h : wpAnyL P md ops Q S n fuel (listed.setIfInBounds i true) (a.put oi.dst v) w) (hi : ops.toList[i]? = some oi := by rfl)
  (hb : ((Region.ready md ops listed).contains i && (Region.noSelect ops && (Region.free md ops listed i && waitsB md ops n i))) = true := by as_aux_lemma => kernel_rfl)
  (hw : Region.wanted oi (yielded ops a.tmps) = true := by rfl) (hQ : ∀ c a w, Q (.panic c) (a.put oi.dst v) w → Q (.panic c) a w := by exact fun _ _ _ h => h) : wpAnyL P md ops Q S n (fuel + 1) listed a w := by
 simp only [Bool.and_eq_true] at hb
 exact wpAnyL_take hi hb.1 hb.2.1 hb.2.2.1 hb.2.2.2 hQ (.inl ⟨hw, hv⟩) hS h
theorem tL {n : Nat} {oi : Oper} {fuel : Nat} {listed : Array Bool} {a : Act} {w : World} {v : Value} (i : Nat) (h : wpAnyL P md ops Q S n fuel (listed.setIfInBounds i true) (a.put oi.dst v) w)
  (hi : ops.toList[i]? = some oi := by rfl) (hS : S w := by exact hS) (hv : ∀ w, S w → (execOp a.eval oi).run P w = .ok (.value v) w := by intro w hSw; have hc := TK.out w hSw; go_simp; try with_reducible rfl)
  (hb : ((Region.ready md ops listed).contains i && (Region.noSelect ops && (Region.free md ops listed i && waitsB md ops n i))) = true := by as_aux_lemma => kernel_rfl)
  (hw : Region.wanted oi (yielded ops a.tmps) = true := by rfl) (hQ : ∀ c a w, Q (.panic c) (a.put oi.dst v) w → Q (.panic c) a w := by exact fun _ _ _ h => h) : wpAnyL P md ops Q S n (fuel + 1) listed a w := wL i v hv hS h hi hb hw hQ
theorem nL {n fuel : Nat} {listed : Array Bool} {a : Act} {w : World} : AllReadyL P md ops Q S n fuel listed a w [] := .nil
theorem cL {n fuel : Nat} {listed : Array Bool} {a : Act} {w : World} (i : Nat) {o : Oper} {rs : List Nat}
  (h : ∀ K' : Act → World → Prop, Shut (∀ a w, (S w ∨ i = n) → wpAnyL P md ops Q S n fuel (listed.setIfInBounds i true) a w → K' a w) → if Region.wanted o (yielded ops a.tmps) = true then Oper.wp P o a w K' Q else K' (a.put o.dst undef) w)
  (hs : AllReadyL P md ops Q S n fuel listed a w rs) (ho : ops.toList[i]? = some o := by rfl) : AllReadyL P md ops Q S n fuel listed a w (i :: rs) := .cons ho h hs
theorem aL {n : Nat} (rs : List Nat) {fuel : Nat} {listed : Array Bool} {a : Act} {w : World} (h : AllReadyL P md ops Q S n fuel listed a w rs) (hr : Region.ready md ops listed = rs := by as_aux_lemma => kernel_rfl) (hne : rs ≠ [] := by simp) :
  wpAnyL P md ops Q S n (fuel + 1) listed a w := wpAnyL_ready hr hne h
theorem rL {n fuel : Nat} {listed : Array Bool} {a : Act} {w : World} (i : Nat) {o : Oper}
  (h : ∀ K' : Act → World → Prop, Shut (∀ a w, (S w ∨ i = n) → wpAnyL P md ops Q S n fuel (listed.setIfInBounds i true) a w → K' a w) → if Region.wanted o (yielded ops a.tmps) = true then Oper.wp P o a w K' Q else K' (a.put o.dst undef) w)
  (ho : ops.toList[i]? = some o := by rfl) (hr : Region.ready md ops listed = [i] := by as_aux_lemma => kernel_rfl) : wpAnyL P md ops Q S n (fuel + 1) listed a w := aL [i] (.cons ho h .nil) hr
theorem dL {n : Nat} {listed : Array Bool} {a : Act} {w : World} (h : Q .normal a w) (fuel : Nat) (hr : Region.ready md ops listed = [] := by as_aux_lemma => kernel_rfl) : wpAnyL P md ops Q S n fuel listed a w := wpAnyL_done hr h fuel
end
theorem zz : (∀ (a : Act) (d : Tmp) (v : Value), a.put (some d) v = { a with tmps := a.tmps.setIfInBounds d v }) ∧ (∀ (a : Act) (v : Value), a.put none v = a) ∧
  (∀ {α : Type} (l : List α) (i : Nat) (a : α), l.toArray.setIfInBounds i a = (l.set i a).toArray) ∧ (∀ {α : Type} (x a : α) (xs : List α), (x :: xs).set 0 a = a :: xs) ∧
  (∀ {α : Type} (x a : α) (xs : List α) (i : Nat), (x :: xs).set (i + 1) a = x :: xs.set i a) :=
 ⟨fun _ _ _ => rfl, fun _ _ => rfl, fun _ _ _ => by simp, fun _ _ _ => rfl, fun _ _ _ _ => rfl⟩
end Go.Proofs.YtndfpmboanohcaaGreatDoor
