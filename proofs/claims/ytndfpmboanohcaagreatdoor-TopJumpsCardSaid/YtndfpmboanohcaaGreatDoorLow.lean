/- Contracts of packages epoch, octet, canon's flag, api.Number at no error, the last law's Same. -/
import Derived.Test.YtndfpmboanohcaaGreatDoorConf
namespace Go.Proofs.YtndfpmboanohcaaGreatDoor
set_option maxRecDepth 100000
open Go.RowKit Go.Maps SkipPure
attribute [local go_sem] max2' min2' max_two' min_two'

/-- epoch.Of. -/
def eOf (s S : Int) : Int := max 0 s / max 1 S
theorem eOf_nonneg (s S : Int) : 0 ≤ eOf s S := Int.ediv_nonneg (by omega) (by omega)
theorem eOf_le (s S : Int) : eOf s S ≤ max 0 s := Int.ediv_le_self _ (by omega)
theorem eof_calls (s S : Int) (w : World) (hs : s ≤ 9223372036854775807) (hS : S ≤ 1000000) :
    Calls Tryz.prog 47 #[.int .i64 s, .int .i64 S] w fun e w' => e = .returned (.int .i64 (eOf s S)) ∧ w = w' := by
  have h1 := eOf_nonneg s S
  have h2 := eOf_le s S
  have hz : (max 1 S = 0) = False := eq_false (by omega)
  have ht : IntKind.i64.wrap ((max 0 s).tdiv (max 1 S)) = eOf s S := by
    rw [Int.tdiv_eq_ediv_of_nonneg (by omega)]
    unfold eOf at *
    generalize max 0 s / max 1 S = x at *
    simp [IntKind.wrap, IntKind.signed, IntKind.bits]; omega
  go_enter Tryz.func47, Tryz.ntmps47
  go_wp2
  go_ret
  exact ⟨rfl, rfl⟩

/-- epoch.Start. -/
def eStart (e S : Int) : Int := max 0 e * max 1 S
theorem estart_calls (e S : Int) (w : World) (h : eStart e S ≤ 9223372036854775807) :
    Calls Tryz.prog 49 #[.int .i64 e, .int .i64 S] w fun z w' => z = .returned (.int .i64 (eStart e S)) ∧ w = w' := by
  have h1 : 0 ≤ eStart e S := Int.mul_nonneg (by omega) (by omega)
  have ht : IntKind.i64.wrap (max 0 e * max 1 S) = eStart e S := by
    change IntKind.i64.wrap (eStart e S) = eStart e S
    simp [IntKind.wrap, IntKind.signed, IntKind.bits]; omega
  go_enter Tryz.func49, Tryz.ntmps49
  go_wp2
  go_ret
  exact ⟨rfl, rfl⟩

theorem flag_calls (b : Bool) (w : World) : Calls Tryz.prog 42 #[.bool b] w fun z w' => z = .returned (.int .u64 (if b then 1 else 0)) ∧ w = w' := by
  cases b
  · go_enter Tryz.func42, Tryz.ntmps42
    go_wp2
    go_ret
    exact ⟨rfl, rfl⟩
  · go_enter Tryz.func42, Tryz.ntmps42
    go_wp2
    go_ret
    exact ⟨rfl, rfl⟩

theorem as_nil (t : Value) (w : World) : Calls Tryz.prog 26 #[.nilIface, t] w fun e w' => e = .returned (.bool false) ∧ w = w' := by
  go_enter Tryz.func26, Tryz.ntmps26
  go_wp2
  go_ret
  exact ⟨rfl, rfl⟩

theorem number_nil (w : World) : Calls Tryz.prog 16 #[.nilIface] w fun e w' => e = .returned (.int .i64 0) ∧ w.grownBy w' none := by
  go_enter Tryz.func16, Tryz.ntmps16
  go_wp2_with fail
  refine (as_nil _ _).mono ?_
  rintro e w' ⟨rfl, rfl⟩
  go_wp2
  go_ret
  exact ⟨rfl, World.grownBy_alloc _ _ none⟩

theorem info_u8 : (Tryz.prog.info? 5).map (fun i => (i.zero, i.size, i.bytes)) = some (some (.int .u8 0), 1, 1) := by kernel_rfl

/-- A number's byte i, from the highest on. -/
def byteF (x : Int) (i : Nat) : Value := .int .u8 (x / 2 ^ (56 - 8 * i) % 256)
def bytesF (x : Int) : List Value := (List.range 8).map (byteF x)
def putF : List Int → List Value
  | [] => []
  | x :: r => bytesF x ++ putF r
theorem bytesF_length (x : Int) : (bytesF x).length = 8 := by simp [bytesF]
theorem putF_append (xs ys : List Int) : putF (xs ++ ys) = putF xs ++ putF ys := by
  induction xs with
  | nil => rfl
  | cons x r ih => simp [putF, ih]
theorem putF_length (xs : List Int) : (putF xs).length = 8 * xs.length := by
  induction xs with
  | nil => rfl
  | cons x r ih => simp [putF, ih, bytesF_length]; omega
theorem putF_take (xs : List Int) (i : Nat) (h : i < xs.length) : putF (xs.take (i + 1)) = putF (xs.take i) ++ bytesF (xs.getD i 0) := by
  rw [List.take_add_one, putF_append]
  congr 1
  simp [putF, List.getElem?_eq_getElem h, List.getD_eq_getElem?_getD]
theorem bytesF_take (x : Int) (i : Nat) (h : i < 8) : (bytesF x).take (i + 1) = (bytesF x).take i ++ [byteF x i] := by
  rw [List.take_add_one]
  congr 1
  simp [bytesF, h]

theorem _root_.Go.World.ownsRow.two {w : World} {base : Nat} {e : TypeId} {size : Nat} {v : Value} {n : Nat} {xs : List Value} (h : w.ownsRow base e size v n xs) : v = .slice none 0 0 ∨ ∃ g cap, v = .slice (some ⟨g, 0, none⟩) n cap := by
  rcases h.2 with h | ⟨g, cap, _, h, _⟩
  · exact .inl h.1
  · exact .inr ⟨g, cap, h⟩

set_option maxHeartbeats 1000000 in
theorem put_calls {w : World} {B n : Nat} {v : Value} {xs : List Value} (hv : w.ownsRow B 5 1 v n xs) {na : Option Addr} {nl nc : Nat} {ns : List Int} (hn : Ints .u64 w na ns) (hl : nl = ns.length)
    (hns : ∀ i, i < ns.length → inU (ns.getD i 0)) (hsz : n + 8 * ns.length ≤ 1099511627776) (hv0 : v = .slice none 0 0 ∨ 0 < n) (hx1 : ∀ u ∈ xs, u.oneCell' = true) :
    Calls Tryz.prog 39 #[v, .slice na nl nc] w fun e w' => ∃ v', e = .returned v' ∧ w'.ownsRow w.heap.size 5 1 v' (n + 8 * ns.length) (xs ++ putF ns) ∧ w.grownBy w' none := by
  subst hl
  have HV := Lib.hid hv
  have HN := Lib.hid hn
  have HNS := Lib.hid hns
  clear hv hn hns
  obtain ⟨i0, hi, hz0, hz1, hz2⟩ := info_parts info_u8
  have HI0 := Lib.hid hi
  have HZ0 := Lib.hid hz0
  have HZ1 := Lib.hid hz1
  have HZ2 := Lib.hid hz2
  clear hi hz0 hz1 hz2
  go_enter Tryz.func39, Tryz.ntmps39
  rcases hv0 with hv0 | hv0
  · have hn0 : n = 0 := by
      rcases HV.out.2 with h | ⟨_, _, _, h, _⟩
      · exact h.2
      · rw [hv0] at h; cases h
    subst hv0
    have hxs : xs = [] := List.eq_nil_of_length_eq_zero (by have := HV.out.1; omega)
    have h5 : w.ownsRow w.heap.size 5 1 (.slice none 0 0) n xs := by rw [hn0, hxs]; exact World.ownsRow_nil _ _ _ _
    clear hn0 hxs
    go_wp2_with (at_builtin; refine wpList_append_own_none rfl _ _ 23 rfl w.heap.size 5 i0 1 Tryz.underlying23 HI0.out (.slice none 0 0) 0 [] rfl (World.ownsRow_nil _ _ _ _) rfl ?_)
    have hg5 := World.grownBy.refl w none
    have H5 := Lib.hid h5
    have HG5 := Lib.hid hg5
    clear h5 hg5
    go_loopw [13, 5] (fun v13 v5 wr => ∃ j : Nat, v13 = .int .i64 (j : Int) ∧ j ≤ ns.length ∧ wr.ownsRow w.heap.size 5 1 v5 (n + 8 * j) (xs ++ putF (ns.take j)) ∧ w.grownBy wr none) (fun v13 _ _ => ns.length - (intOf v13).toNat)
    case atStart => exact ⟨0, rfl, by omega, by simpa [putF] using H5.out, HG5.out⟩
    case round =>
      obtain ⟨j, rfl, hj, ho, hg⟩ := hrel
      have HO := Lib.hid ho
      have HG := Lib.hid hg
      clear ho hg
      by_cases hlt : j < ns.length
      · obtain ⟨ad, rfl, hc⟩ := (HN.out.kept HG.out) j hlt
        have hx := HNS.out j hlt
        have ht := putF_take ns j hlt
        obtain ⟨x, hxe⟩ : ∃ x, x = ns.getD j 0 := ⟨_, rfl⟩
        rw [← hxe] at hc hx ht
        have HX := Lib.hid hx
        have HT := Lib.hid ht
        clear hx hxe ht
        go_wp2
        obtain ⟨wo, rfl⟩ : ∃ wo : World, wo = wr := ⟨_, rfl⟩
        go_loopw [8, 5] (fun v8 v5 wr => ∃ (i : Nat) (s : Int), v8 = .int .i64 s ∧ s = 56 - 8 * i ∧ i ≤ 8 ∧ wr.ownsRow w.heap.size 5 1 v5 (n + 8 * j + i) (xs ++ putF (ns.take j) ++ (bytesF x).take i) ∧ w.grownBy wr none) (fun v8 _ _ => (intOf v8 + 8).toNat)
        case atStart => exact ⟨0, 56, rfl, rfl, by omega, by simpa using HO.out, HG.out⟩
        case round =>
          obtain ⟨i, s, rfl, hs, hi, ho2, hg2⟩ := hrel
          have HO2 := Lib.hid ho2
          have HG2 := Lib.hid hg2
          clear ho2 hg2
          by_cases h8 : i < 8
          · obtain ⟨m, rfl⟩ : ∃ m : Nat, s = (m : Int) := ⟨s.toNat, by omega⟩
            have hsi : m = 56 - 8 * i := by omega
            clear hs
            have HSI := Lib.hid hsi
            have hm56 : m ≤ 56 := by omega
            clear hsi
            rcases HO2.out.two with hv5 | ⟨g5', cap5', hv5⟩
            · subst hv5
              go_wp2_with (at_builtin; refine wpList_append_lies _ rfl _ _ 23 rfl w.heap.size 5 i0 (.int .u8 0) 1 1 Tryz.underlying23 HI0.out HZ0.out HZ1.out HZ2.out rfl (by decide) _ (n + 8 * j + i) (xs ++ putF (ns.take j) ++ (bytesF x).take i) rfl (HO2.out.alloc _) ⟨wr.heap.size, 0, none⟩ 1 1 [.int .u8 (x / 2 ^ m % 256)] rfl rfl (World.news_of_block (MapKept.heap_alloc _ _).1) (by simp [Value.oneCell']) (by decide) (by unfold maxLen; omega) (by omega) (by have := HG2.out.size; simp; omega) _ rfl ?_; intro g6 c6 w6 h6 hg6 hat6 hlt6; have H6 := Lib.hid h6; have HG6 := Lib.hid hg6; clear h6 hg6 hat6)
              refine ⟨⟨i + 1, (m : Int) - 8, rfl, by have := HSI.out; omega, by omega, ?_, (g2 HG2.out (World.grownBy_alloc wr _ none)).andThen HG6.out (fun k e => Or.inl (HO2.out.lt k e).1)⟩, by simp [intOf]; omega⟩
              have h6 := H6.out
              rw [bytesF_take x i h8, ← List.append_assoc]
              have hb : byteF x i = .int .u8 (x / 2 ^ m % 256) := by unfold byteF; rw [HSI.out]
              rw [hb]
              exact h6
            · subst hv5
              go_wp2_with (at_builtin; refine wpList_append_lies _ rfl _ _ 23 rfl w.heap.size 5 i0 (.int .u8 0) 1 1 Tryz.underlying23 HI0.out HZ0.out HZ1.out HZ2.out rfl (by decide) _ (n + 8 * j + i) (xs ++ putF (ns.take j) ++ (bytesF x).take i) rfl (HO2.out.alloc _) ⟨wr.heap.size, 0, none⟩ 1 1 [.int .u8 (x / 2 ^ m % 256)] rfl rfl (World.news_of_block (MapKept.heap_alloc _ _).1) (by simp [Value.oneCell']) (by decide) (by unfold maxLen; omega) (by omega) (by have := HG2.out.size; simp; omega) _ rfl ?_; intro g6 c6 w6 h6 hg6 hat6 hlt6; have H6 := Lib.hid h6; have HG6 := Lib.hid hg6; clear h6 hg6 hat6)
              refine ⟨⟨i + 1, (m : Int) - 8, rfl, by have := HSI.out; omega, by omega, ?_, (g2 HG2.out (World.grownBy_alloc wr _ none)).andThen HG6.out (fun k e => Or.inl (HO2.out.lt k e).1)⟩, by simp [intOf]; omega⟩
              have h6 := H6.out
              rw [bytesF_take x i h8, ← List.append_assoc]
              have hb : byteF x i = .int .u8 (x / 2 ^ m % 256) := by unfold byteF; rw [HSI.out]
              rw [hb]
              exact h6
          · have hi8 : i = 8 := by omega
            subst hi8
            have hs8 : s = -8 := by omega
            subst hs8
            clear hs
            have h7 := HO2.out
            rw [show (bytesF x).take 8 = bytesF x from List.take_of_length_le (by rw [bytesF_length]; omega), List.append_assoc, ← HT.out] at h7
            have H7 := Lib.hid h7
            clear h7
            go_wp2
            exact ⟨⟨j + 1, by simp, by omega, by have := H7.out; rwa [show n + 8 * (j + 1) = n + 8 * j + 8 by omega], HG2.out⟩, by simp [intOf]; omega⟩
      · have hje : j = ns.length := by omega
        subst hje
        rw [List.take_length] at HO
        go_wp2
        go_ret
        exact ⟨_, rfl, HO.out, HG.out⟩
  · obtain ⟨g, cap, rfl, hgg⟩ := HV.out.form hv0
    go_wp2_with (at_builtin; refine wpList_append_lies _ rfl _ _ 23 rfl w.heap.size 5 i0 (.int .u8 0) 1 1 Tryz.underlying23 HI0.out HZ0.out HZ1.out HZ2.out rfl (by decide) (.slice none 0 0) 0 [] rfl (World.ownsRow_nil _ _ _ _) ⟨g, 0, none⟩ n cap xs rfl (by have := HV.out.1; omega) (HV.out.cells rfl) hx1 hv0 (by unfold maxLen; omega) (by omega) (Nat.le_refl _) _ rfl ?_; intro g5 c5 w5 h5 hg5 hat5 hlt5; rw [Nat.zero_add, List.nil_append] at h5)
    have H5 := Lib.hid h5
    have HG5 := Lib.hid hg5
    clear h5 hg5
    go_loopw [13, 5] (fun v13 v5 wr => ∃ j : Nat, v13 = .int .i64 (j : Int) ∧ j ≤ ns.length ∧ wr.ownsRow w.heap.size 5 1 v5 (n + 8 * j) (xs ++ putF (ns.take j)) ∧ w.grownBy wr none) (fun v13 _ _ => ns.length - (intOf v13).toNat)
    case atStart => exact ⟨0, rfl, by omega, by simpa [putF] using H5.out, HG5.out⟩
    case round =>
      obtain ⟨j, rfl, hj, ho, hg⟩ := hrel
      have HO := Lib.hid ho
      have HG := Lib.hid hg
      clear ho hg
      by_cases hlt : j < ns.length
      · obtain ⟨ad, rfl, hc⟩ := (HN.out.kept HG.out) j hlt
        have hx := HNS.out j hlt
        have ht := putF_take ns j hlt
        obtain ⟨x, hxe⟩ : ∃ x, x = ns.getD j 0 := ⟨_, rfl⟩
        rw [← hxe] at hc hx ht
        have HX := Lib.hid hx
        have HT := Lib.hid ht
        clear hx hxe ht
        go_wp2
        obtain ⟨wo, rfl⟩ : ∃ wo : World, wo = wr := ⟨_, rfl⟩
        go_loopw [8, 5] (fun v8 v5 wr => ∃ (i : Nat) (s : Int), v8 = .int .i64 s ∧ s = 56 - 8 * i ∧ i ≤ 8 ∧ wr.ownsRow w.heap.size 5 1 v5 (n + 8 * j + i) (xs ++ putF (ns.take j) ++ (bytesF x).take i) ∧ w.grownBy wr none) (fun v8 _ _ => (intOf v8 + 8).toNat)
        case atStart => exact ⟨0, 56, rfl, rfl, by omega, by simpa using HO.out, HG.out⟩
        case round =>
          obtain ⟨i, s, rfl, hs, hi, ho2, hg2⟩ := hrel
          have HO2 := Lib.hid ho2
          have HG2 := Lib.hid hg2
          clear ho2 hg2
          by_cases h8 : i < 8
          · obtain ⟨m, rfl⟩ : ∃ m : Nat, s = (m : Int) := ⟨s.toNat, by omega⟩
            have hsi : m = 56 - 8 * i := by omega
            clear hs
            have HSI := Lib.hid hsi
            have hm56 : m ≤ 56 := by omega
            clear hsi
            rcases HO2.out.two with hv5 | ⟨g5', cap5', hv5⟩
            · subst hv5
              go_wp2_with (at_builtin; refine wpList_append_lies _ rfl _ _ 23 rfl w.heap.size 5 i0 (.int .u8 0) 1 1 Tryz.underlying23 HI0.out HZ0.out HZ1.out HZ2.out rfl (by decide) _ (n + 8 * j + i) (xs ++ putF (ns.take j) ++ (bytesF x).take i) rfl (HO2.out.alloc _) ⟨wr.heap.size, 0, none⟩ 1 1 [.int .u8 (x / 2 ^ m % 256)] rfl rfl (World.news_of_block (MapKept.heap_alloc _ _).1) (by simp [Value.oneCell']) (by decide) (by unfold maxLen; omega) (by omega) (by have := HG2.out.size; simp; omega) _ rfl ?_; intro g6 c6 w6 h6 hg6 hat6 hlt6; have H6 := Lib.hid h6; have HG6 := Lib.hid hg6; clear h6 hg6 hat6)
              refine ⟨⟨i + 1, (m : Int) - 8, rfl, by have := HSI.out; omega, by omega, ?_, (g2 HG2.out (World.grownBy_alloc wr _ none)).andThen HG6.out (fun k e => Or.inl (HO2.out.lt k e).1)⟩, by simp [intOf]; omega⟩
              have h6 := H6.out
              rw [bytesF_take x i h8, ← List.append_assoc]
              have hb : byteF x i = .int .u8 (x / 2 ^ m % 256) := by unfold byteF; rw [HSI.out]
              rw [hb]
              exact h6
            · subst hv5
              go_wp2_with (at_builtin; refine wpList_append_lies _ rfl _ _ 23 rfl w.heap.size 5 i0 (.int .u8 0) 1 1 Tryz.underlying23 HI0.out HZ0.out HZ1.out HZ2.out rfl (by decide) _ (n + 8 * j + i) (xs ++ putF (ns.take j) ++ (bytesF x).take i) rfl (HO2.out.alloc _) ⟨wr.heap.size, 0, none⟩ 1 1 [.int .u8 (x / 2 ^ m % 256)] rfl rfl (World.news_of_block (MapKept.heap_alloc _ _).1) (by simp [Value.oneCell']) (by decide) (by unfold maxLen; omega) (by omega) (by have := HG2.out.size; simp; omega) _ rfl ?_; intro g6 c6 w6 h6 hg6 hat6 hlt6; have H6 := Lib.hid h6; have HG6 := Lib.hid hg6; clear h6 hg6 hat6)
              refine ⟨⟨i + 1, (m : Int) - 8, rfl, by have := HSI.out; omega, by omega, ?_, (g2 HG2.out (World.grownBy_alloc wr _ none)).andThen HG6.out (fun k e => Or.inl (HO2.out.lt k e).1)⟩, by simp [intOf]; omega⟩
              have h6 := H6.out
              rw [bytesF_take x i h8, ← List.append_assoc]
              have hb : byteF x i = .int .u8 (x / 2 ^ m % 256) := by unfold byteF; rw [HSI.out]
              rw [hb]
              exact h6
          · have hi8 : i = 8 := by omega
            subst hi8
            have hs8 : s = -8 := by omega
            subst hs8
            clear hs
            have h7 := HO2.out
            rw [show (bytesF x).take 8 = bytesF x from List.take_of_length_le (by rw [bytesF_length]; omega), List.append_assoc, ← HT.out] at h7
            have H7 := Lib.hid h7
            clear h7
            go_wp2
            exact ⟨⟨j + 1, by simp, by omega, by have := H7.out; rwa [show n + 8 * (j + 1) = n + 8 * j + 8 by omega], HG2.out⟩, by simp [intOf]; omega⟩
      · have hje : j = ns.length := by omega
        subst hje
        rw [List.take_length] at HO
        go_wp2
        go_ret
        exact ⟨_, rfl, HO.out, HG.out⟩
end Go.Proofs.YtndfpmboanohcaaGreatDoor
