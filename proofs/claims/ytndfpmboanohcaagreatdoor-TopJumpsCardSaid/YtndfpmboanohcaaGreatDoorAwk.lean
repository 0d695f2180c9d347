/- The plain law of awake: what the store, the row and the list are behind its two events. -/
import Derived.Test.YtndfpmboanohcaaGreatDoorRep
namespace Go.Proofs.YtndfpmboanohcaaGreatDoor
set_option maxRecDepth 100000
open Go.RowKit Go.Maps SkipPure

def sgA : St := tickF (st0 [5] 4 0) 2
def sgB : St := addS sgA 2 1 2 0 (led0 1 1)
theorem may1 : MayBe [5] 4 0 :=
  ⟨by simp, by simp, by omega, by omega, by omega, by omega, fun i hi => by
    have e : i = 0 := by simp at hi; omega
    subst e
    simp⟩
theorem sgA_eq : sgA = { st0 [5] 4 0 with slot := 2, boosted := 0 } := by
  have e : tickE (st0 [5] 4 0) 2 = 0 := by unfold tickE st0; simp
  unfold sgA tickF
  rw [if_pos e]
def F1 : Int → Option (Int × Int × Int) := fun x => if x = 1 then some (1, 0, 0) else none
def F2 : Int → Option (Int × Int × Int) := fun x => if x = 2 then some (1, 2, 1) else if x = 1 then some (1, 0, 0) else none
theorem adv1 (T : Int → Option (Int × Int × Int)) : advF [5] 4 T 1 2 (led0 1 1) 2 = led0 1 1 := by
  unfold advF
  have e : endsF (eOf ((led0 1 1).ep * max 1 4) 4) (eOf 2 4) = [] := by decide
  rw [e]
  rfl
theorem sgB_eq : sgB = { sgA with n := 2, F := F2, L := ledSet sgA.L 2 (led0 1 1), boosted := 2 } := by
  unfold sgB addS
  rw [sgA_eq]
  have h1 : tset (st0 [5] 4 0).F 2 (1, 2, 0 + 1) = F2 := by funext x; unfold tset F2 st0; rfl
  simp only [h1]
  have h2 : (st0 [5] 4 0).bs = [5] := rfl
  have h3 : (st0 [5] 4 0).S = 4 := rfl
  have h4 : (st0 [5] 4 0).f = 1 := rfl
  rw [h2, h3, h4, adv1]
  rfl
theorem keysF1 {r : Int} (h : (F1 r).isSome = true) : r = 1 := by
  unfold F1 at h
  split at h
  · assumption
  · cases h
theorem keysF2 {r : Int} (h : (F2 r).isSome = true) : r = 1 ∨ r = 2 := by
  unfold F2 at h
  split at h
  · right; assumption
  · split at h
    · left; assumption
    · cases h
theorem wellF1 : WellT 1 F1 := by
  refine ⟨rfl, fun r x h hr => ?_, fun r x h => ?_, fun r x h => ?_, fun r x h => ?_⟩
  all_goals
    have hk := keysF1 (r := r) (by rw [h]; rfl)
    subst hk
  · exact (hr rfl).elim
  · unfold inU; omega
  · cases h; simp
  · cases h; simp
theorem wellF2 : WellT 1 F2 := by
  refine ⟨rfl, fun r x h hr => ?_, fun r x h => ?_, fun r x h => ?_, fun r x h => ?_⟩
  all_goals
    rcases keysF2 (r := r) (by rw [h]; rfl) with hk | hk
    all_goals subst hk
  · exact (hr rfl).elim
  · cases h; exact ⟨(1, 0, 0), rfl, by simp⟩
  · unfold inU; omega
  · unfold inU; omega
  · cases h; simp
  · cases h; simp
  · cases h; simp
  · cases h; simp
theorem ledBd0 : LedBd (led0 1 1) := ⟨⟨by simp [led0], by simp [led0], by simp [led0], by simp [led0], by simp [led0], by simp [led0], by simp [led0, inU], by simp [led0, inU], by simp [led0, inU]⟩, by simp [led0], by simp [led0]⟩
theorem wfA : StWf sgA := by
  rw [sgA_eq]
  refine ⟨may1, wellF1, by show 1 ≤ 1024; omega, ⟨[1], by show 1 ≤ 1; omega, fun k hk => by rw [keysF1 hk]; simp⟩, fun r => ?_, fun r x h => ?_, by show (0 : Int) ≤ 2; omega, by show (2 : Int) ≤ _; omega, by show inU 0; unfold inU; omega, by show (0 : Int) ≤ 0; omega, by show (0 : Int) ≤ _; omega, by show inU 1; unfold inU; omega,
    by show (0 : Int) ≤ 0; omega, by show (0 : Int) ≤ _; omega, by show inU 1; unfold inU; omega, fun i _ => by show inU 0 ∧ (0 : Int) ≤ 0 ∧ (0 : Int) ≤ _; unfold inU; omega⟩
  · show (if r = 1 then some (led0 1 1) else none).isSome = (F1 r).isSome
    unfold F1
    split <;> rfl
  · have h2 : (if r = 1 then some (led0 1 1) else none) = some x := h
    split at h2
    · cases h2; exact ledBd0
    · cases h2
theorem wfB : StWf sgB := by
  rw [sgB_eq, sgA_eq]
  refine ⟨may1, wellF2, by show 2 ≤ 1024; omega, ⟨[1, 2], by show 2 ≤ 2; omega, fun k hk => by rcases keysF2 hk with e | e <;> rw [e] <;> simp⟩, fun r => ?_, fun r x h => ?_, by show (0 : Int) ≤ 2; omega, by show (2 : Int) ≤ _; omega, by show inU 2; unfold inU; omega, by show (0 : Int) ≤ 0; omega, by show (0 : Int) ≤ _; omega, by show inU 1; unfold inU; omega,
    by show (0 : Int) ≤ 0; omega, by show (0 : Int) ≤ _; omega, by show inU 1; unfold inU; omega, fun i _ => by show inU 0 ∧ (0 : Int) ≤ 0 ∧ (0 : Int) ≤ _; unfold inU; omega⟩
  · show (ledSet (fun x => if x = 1 then some (led0 1 1) else none) 2 (led0 1 1) r).isSome = (F2 r).isSome
    unfold ledSet F2
    by_cases e2 : r = 2
    · simp [e2]
    · by_cases e1 : r = 1
      · simp [e1]
      · simp [e1, e2]
  · have h2 : ledSet (fun x => if x = 1 then some (led0 1 1) else none) 2 (led0 1 1) r = some x := h
    unfold ledSet at h2
    by_cases e2 : r = 2
    · simp [e2] at h2; rw [← h2]; exact ledBd0
    · by_cases e1 : r = 1
      · simp [e1] at h2; rw [← h2]; exact ledBd0
      · simp [e1, e2] at h2
theorem add1 : Addable sgA 2 1 2 1 0 0 (led0 1 1) := by
  rw [sgA_eq]
  refine ⟨by unfold inU; omega, by omega, by show (2 : Int) ≤ 2; omega, fun h => h, rfl, rfl, by omega, by show 1 < 1024; omega, by omega, rfl, ?_, ?_, ?_⟩
  · show (advF [5] 4 _ 1 2 (led0 1 1) 2).j.ce ≤ 0
    rw [adv1]; simp [led0]
  · show (advF [5] 4 _ 1 2 (led0 1 1) 2).j.fe ≤ 0
    rw [adv1]; simp [led0]
  · show ¬ eOf 2 4 < eOf 2 4
    omega
theorem risA : Rising sgA.F [1] := by
  rw [sgA_eq]
  refine ⟨by simp, fun x hx => ?_, fun x _ => ⟨fun hx => ?_, fun hx => ?_⟩⟩
  · simp at hx; subst hx; unfold inU; omega
  · simp at hx; subst hx; rfl
  · rw [keysF1 hx]; simp
theorem risB : Rising sgB.F [1, 2] := by
  rw [sgB_eq]
  refine ⟨by simp, fun x hx => ?_, fun x _ => ⟨fun hx => ?_, fun hx => ?_⟩⟩
  · simp at hx; unfold inU; omega
  · simp at hx; rcases hx with e | e <;> subst e <;> rfl
  · rcases keysF2 hx with e | e <;> rw [e] <;> simp
theorem parA : ∀ r x, sgA.F r = some x → inU x.1 := by
  rw [sgA_eq]
  intro r x h
  have hk := keysF1 (r := r) (show (F1 r).isSome = true by rw [show F1 r = some x from h]; rfl)
  subst hk
  cases h
  simp [inU]
theorem parB : ∀ r x, sgB.F r = some x → inU x.1 := by
  rw [sgB_eq]
  intro r x h
  rcases keysF2 (r := r) (show (F2 r).isSome = true by rw [show F2 r = some x from h]; rfl) with hk | hk <;> subst hk <;> cases h <;> simp [inU]

theorem head_one {may : Int → Prop} {X : Nat → Nd} (h : (X 0).r = 1) : headF may X 1 1 = 1 := by
  have e : fnd X 1 1 = 0 := by simp [fnd, h]
  have e2 : bestL may X (1 - 1) (fun _ => -1) = fun _ => -1 := rfl
  have e3 : walkB (fun _ => -1) 1 0 = 0 := rfl
  unfold headF
  rw [e, e2, e3, if_neg (by omega)]
  exact h
theorem head_two {may : Int → Prop} {X : Nat → Nd} (h0 : (X 0).r = 1) (h1 : (X 1).r = 2) (hp : (X 1).p = 0) (hm : may 2) : headF may X 2 1 = 2 := by
  have e : fnd X 1 2 = 0 := by simp [fnd, h0]
  have e2 : bestL may X (2 - 1) (fun _ => -1) = bset (fun _ => -1) 0 1 := by
    show bestS may X (fun _ => -1) 1 = _
    unfold bestS
    rw [h1, hp, if_pos ⟨hm, by omega, by simp [betterF]⟩]
    rfl
  have e3 : walkB (bset (fun _ => -1) 0 1) 2 0 = 1 := by
    unfold walkB
    rw [if_pos ⟨by omega, by simp [bset]⟩]
    have e4 : bset (fun _ => -1) 0 1 (0 : Int).toNat = 1 := rfl
    rw [e4]
    unfold walkB
    rw [if_neg (by simp [bset])]
  unfold headF
  rw [e, e2, e3, if_neg (by omega)]
  exact h1
theorem may2 (G : Int → Option Int) (ep : Int) : MayLead F2 1 [1, 2] G 0 1 ep 2 := by
  refine ⟨.step (x := (1, 2, 1)) rfl (by omega) (.self 1), 2, rfl, by decide, ?_, .self 2⟩
  unfold leafF
  have e : belowT F2 1 2 1 = true := by decide
  rw [e]
  simp
theorem step_end {F : Int → Option (Int × Int × Int)} {f : Int} {ks : List Int} {may : Int → Prop} {wt : Int → Int} {h : Int} (hk : kidsT F f h ks = []) : stepB F f ks may wt h = none := by
  unfold stepB kidsB
  rw [hk]
  exact if_neg (by simp [fl, bestF])
theorem hdA (may : Int → Prop) (wt : Int → Int) : HdB (stepB F1 1 [1] may wt) 1 1 := .stop (step_end (by decide))
theorem hdB2 {may : Int → Prop} (hm : may 2) (wt : Int → Int) : HdB (stepB F2 1 [1, 2] may wt) 1 2 := by
  refine .next (k := 2) ?_ (.stop (step_end (by decide)))
  unfold stepB kidsB
  have e : kidsT F2 1 1 [1, 2] = [2] := by decide
  have e2 : fl may [2] = [2] := by unfold fl; simp [hm]
  rw [e, e2]
  have e3 : bestF wt [2] = (2, wt 2, true) := by simp [bestF, bstep]
  rw [e3]
  rfl
end Go.Proofs.YtndfpmboanohcaaGreatDoor
