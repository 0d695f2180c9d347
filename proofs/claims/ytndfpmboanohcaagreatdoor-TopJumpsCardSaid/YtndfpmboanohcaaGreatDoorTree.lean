/- The plain side of package skip: heights, ancestors, jump rows, and how many ones a number has. No program. -/
namespace Go.Proofs.YtndfpmboanohcaaGreatDoor.SkipPure

def anc (par : Int → Int) (r : Int) : Nat → Int
  | 0 => r
  | d + 1 => par (anc par r d)

theorem anc_add (par : Int → Int) (r : Int) (a : Nat) : ∀ b : Nat, anc par (anc par r a) b = anc par r (a + b)
  | 0 => rfl
  | b + 1 => by rw [anc, anc_add par r a b, ← Nat.add_assoc]; rfl

/-- How many digits a number has in base 2. -/
def blen (h : Nat) : Nat := if h = 0 then 0 else Nat.log2 h + 1

theorem blen_zero : blen 0 = 0 := rfl
theorem lt_blen {h i : Nat} : i < blen h ↔ 2 ^ i ≤ h := by
  unfold blen
  by_cases e : h = 0
  · subst e
    simp
  · rw [if_neg e, Nat.lt_succ_iff, Nat.le_log2 e]
theorem blen_le {h i : Nat} : blen h ≤ i ↔ h < 2 ^ i := by
  have := @lt_blen h i
  omega
theorem blen_pos {h : Nat} (h0 : 0 < h) : 0 < blen h := lt_blen.2 (by simp; omega)
theorem pow_blen {h : Nat} (h0 : 0 < h) : 2 ^ (blen h - 1) ≤ h := lt_blen.1 (by have := blen_pos h0; omega)
theorem lt_pow_blen (h : Nat) : h < 2 ^ blen h := blen_le.1 (Nat.le_refl _)

def js (par : Int → Int) (r : Int) (h : Nat) : List Int := (List.range (blen h)).map fun i => anc par r (2 ^ i)
theorem js_length (par : Int → Int) (r : Int) (h : Nat) : (js par r h).length = blen h := by simp [js]
theorem js_getD (par : Int → Int) (r : Int) (h i : Nat) (hi : i < blen h) : (js par r h).getD i 0 = anc par r (2 ^ i) := by
  unfold js
  rw [List.getD_eq_getElem?_getD, List.getElem?_map, List.getElem?_range hi]
  rfl

/-- How many ones a number has in base 2. -/
def pop (n : Nat) : Nat := if h : n = 0 then 0 else n % 2 + pop (n / 2)
theorem pop_zero : pop 0 = 0 := by rw [pop]; rfl
theorem pop_step {n : Nat} (h : 0 < n) : pop n = n % 2 + pop (n / 2) := by rw [pop, dif_neg (by omega)]
theorem pop_even (n : Nat) : pop (2 * n) = pop n := by
  by_cases h : n = 0
  · subst h; rfl
  · rw [pop_step (by omega), show 2 * n % 2 = 0 by omega, show 2 * n / 2 = n by omega]; omega
theorem pop_top : ∀ (k n : Nat), 2 ^ k ≤ n → n < 2 ^ (k + 1) → pop n = 1 + pop (n - 2 ^ k)
  | 0, n, h1, h2 => by
    have : n = 1 := by simp at h1 h2; omega
    subst this
    rw [pop_step (by omega)]
  | k + 1, n, h1, h2 => by
    have e : 2 ^ (k + 1) = 2 * 2 ^ k := by rw [Nat.pow_succ]; omega
    have e2 : 2 ^ (k + 1 + 1) = 2 * 2 ^ (k + 1) := by rw [Nat.pow_succ]; omega
    have ih := pop_top k (n / 2) (by omega) (by omega)
    rw [pop_step (by have := Nat.two_pow_pos (k + 1); omega), ih]
    by_cases z : n - 2 ^ (k + 1) = 0
    · rw [z, pop_zero, show n / 2 - 2 ^ k = 0 by omega, pop_zero]; omega
    · rw [pop_step (n := n - 2 ^ (k + 1)) (by omega), show (n - 2 ^ (k + 1)) % 2 = n % 2 by omega, show (n - 2 ^ (k + 1)) / 2 = n / 2 - 2 ^ k by omega]; omega
theorem pop_le (n : Nat) : ∀ k, n < 2 ^ k → pop n ≤ k := by
  intro k
  induction k generalizing n with
  | zero => intro h; have : n = 0 := by simpa using h
            subst this; rw [pop_zero]; omega
  | succ k ih =>
    intro h
    by_cases z : n = 0
    · subst z; rw [pop_zero]; omega
    · rw [pop_step (by omega)]
      have e : 2 ^ (k + 1) = 2 * 2 ^ k := by rw [Nat.pow_succ]; omega
      have := ih (n / 2) (by omega)
      omega

/-- Each block that is above height 0 stands on one that is there, one lower. -/
def Tree (hgt : Int → Option Nat) (par : Int → Int) : Prop := ∀ r h, hgt r = some (h + 1) → hgt (par r) = some h

theorem hgt_anc {hgt : Int → Option Nat} {par : Int → Int} (T : Tree hgt par) {r : Int} {h : Nat} (hr : hgt r = some h) : ∀ d, d ≤ h → hgt (anc par r d) = some (h - d)
  | 0, _ => hr
  | d + 1, hd => by
    have := hgt_anc T hr d (by omega)
    rw [anc, T (anc par r d) (h - (d + 1)) (by rw [this]; congr 1; omega)]

def setPar (par : Int → Int) (r q : Int) : Int → Int := fun x => if x = r then q else par x
def setHgt (hgt : Int → Option Nat) (r : Int) (h : Nat) : Int → Option Nat := fun x => if x = r then some h else hgt x

theorem anc_set {hgt : Int → Option Nat} {par : Int → Int} (T : Tree hgt par) {x q : Int} (hx : hgt x = none) {r : Int} {h : Nat} (hr : hgt r = some h) : ∀ d, d ≤ h → anc (setPar par x q) r d = anc par r d
  | 0, _ => rfl
  | d + 1, hd => by
    rw [anc, anc_set T hx hr d (by omega), anc]
    unfold setPar
    rw [if_neg]
    intro e
    have := hgt_anc T hr d (by omega)
    rw [e, hx] at this
    cases this

theorem js_set {hgt : Int → Option Nat} {par : Int → Int} (T : Tree hgt par) {x q : Int} (hx : hgt x = none) {r : Int} {h : Nat} (hr : hgt r = some h) : js (setPar par x q) r h = js par r h := by
  unfold js
  apply List.map_congr_left
  intro i hi
  have hi : i < blen h := by simpa using hi
  exact anc_set T hx hr _ (lt_blen.1 hi)

/-- The new block's ancestors. -/
theorem anc_new {hgt : Int → Option Nat} {par : Int → Int} (T : Tree hgt par) {x q : Int} (hx : hgt x = none) {h : Nat} (hq : hgt q = some h) : ∀ d, d ≤ h → anc (setPar par x q) x (d + 1) = anc par q d
  | 0, _ => by show setPar par x q x = q; simp [setPar]
  | d + 1, hd => by
    rw [anc, anc_new T hx hq d (by omega), anc]
    unfold setPar
    rw [if_neg]
    intro e
    have := hgt_anc T hq d (by omega)
    rw [e, hx] at this
    cases this

theorem Tree.set {hgt : Int → Option Nat} {par : Int → Int} (T : Tree hgt par) {x q : Int} (hx : hgt x = none) {h : Nat} (hq : hgt q = some h) : Tree (setHgt hgt x (h + 1)) (setPar par x q) := by
  intro r k hr
  have hne : q ≠ x := fun e => by rw [e, hx] at hq; cases hq
  by_cases e : r = x
  · subst e
    simp [setHgt] at hr
    subst hr
    simp [setHgt, setPar, hne, hq]
  · have hr' : hgt r = some (k + 1) := by simpa [setHgt, e] using hr
    have h1 := T r k hr'
    have hne2 : par r ≠ x := fun e => by rw [e, hx] at h1; cases h1
    simp [setHgt, setPar, e, hne2, h1]

end Go.Proofs.YtndfpmboanohcaaGreatDoor.SkipPure
