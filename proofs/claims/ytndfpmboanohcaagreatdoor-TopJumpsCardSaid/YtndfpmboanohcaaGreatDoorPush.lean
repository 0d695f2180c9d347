/- 'append(s, x)' of one element, at the operation; rows of bools and of numbers. -/
import Derived.Test.YtndfpmboanohcaaGreatDoorLed1
namespace Go.Proofs.YtndfpmboanohcaaGreatDoor
set_option maxRecDepth 100000
open Go.RowKit Go.Maps SkipPure

theorem add0 (g j : Nat) : (⟨g, 0, none⟩ : Addr).add j = ⟨g, j, none⟩ := by simp [Addr.add]; omega
theorem news_box (w : World) (cs : List Value) (T : TypeId) : ∀ j u, cs[j]? = some u → (w.alloc (.cells cs.toArray T)).cell? ((⟨w.heap.size, 0, none⟩ : Addr).add j) = some u := by
  intro j u hj
  have h := Blk.alloc w cs.toArray T
  have h2 := h.at j
  rw [add0, h2]
  simpa using hj

/-- A fact on an element type's row of the table. -/
def Elem (P : Program) (e : TypeId) (i : TypeInfo) (z : Value) (size bytes : Nat) : Prop := P.info? e = some i ∧ i.zero = some z ∧ i.size = size ∧ i.bytes = bytes

section
variable {P : Program} {ops : Array Oper} {rest : List Oper} {o : Oper} {a : Act} {Q : Exit → Act → World → Prop}
/-- 'append(s, E{..})': what was laid in a box is laid behind the row. -/
theorem wpList_push {W : World} {cs : List Value} {T : TypeId} (hgd : o.guard = none) (s x : Operand) (t : TypeId) (ho : o.op = .call { callee := .builtin .append, args := #[s, x], argTypes := #[t, t] })
    (base : Nat) (e : TypeId) (i : TypeInfo) (z : Value) (size bytes : Nat) (ht : P.underlying t = some (.slice e)) (hI : Elem P e i z size bytes) (hzs : z.cells.size = size) (hsz : 0 < size)
    (v : Value) (n : Nat) (xs : List Value) (hs : a.eval s = v) (hown : W.ownsRow base e size v n xs) (hx : a.eval x = .slice (some ⟨W.heap.size, 0, none⟩) 1 1) (hl : cs.length = size) (h1 : ∀ u ∈ cs, u.oneCell' = true)
    (h63 : n + 1 ≤ maxLen) (hbytes : (n + 1) * bytes ≤ 140737488355328) (hbase : base ≤ W.heap.size)
    (h : ∀ v' w', w'.ownsRow base e size v' (n + 1) (xs ++ cs) → W.grownBy w' v.ownBlock → wpList P ops Q rest (a.put o.dst v') w') :
    wpList P ops Q (o :: rest) a (W.alloc (.cells cs.toArray T)) := by
  refine wpList_append_own_at (w := W.alloc (.cells cs.toArray T)) hgd s x t ho base e i z size bytes ht hI.1 hI.2.1 hI.2.2.1 hI.2.2.2 hzs hsz v n xs hs (hown.alloc _) ⟨W.heap.size, 0, none⟩ 1 1 cs hx (by simpa using hl) (news_box W cs T) h1 h63 hbytes (by simp; omega) ?_
  intro v' w' r1 r2 _ _
  exact h v' w' r1 ((gweak (World.grownBy_alloc W _ none)).andThen r2 (fun j e => Or.inr e))
end

/-- What is owned from base on leaves all older blocks as they were. -/
theorem own_grown {w0 W w' : World} {base : Nat} {e : TypeId} {size : Nat} {v : Value} {n : Nat} {xs : List Value} (hg0 : w0.grownBy W none) (hown : W.ownsRow base e size v n xs) (hb : w0.heap.size ≤ base) (hg : W.grownBy w' v.ownBlock) : w0.grownBy w' none :=
  hg0.andThen hg (fun j ej => Or.inl (Nat.le_trans hb (hown.lt j ej).1))

/-- A row of bools. -/
def BRow (w : World) (g n : Nat) (xs : List Bool) : Prop := xs.length = n ∧ ∀ i, i < n → w.cell? ⟨g, i, none⟩ = some (.bool (xs.getD i false))
theorem BRow.g {w w' : World} {g n : Nat} {xs : List Bool} (h : BRow w g n xs) (hg : w.grownBy w' none) : BRow w' g n xs := ⟨h.1, fun i hi => cell_g (h.2 i hi) hg⟩
theorem BRow.chg {S : Nat → Prop} {w w' : World} {g n : Nat} {xs : List Bool} (h : BRow w g n xs) (hg : Chg S w w') (hn : ¬ S g) : BRow w' g n xs := ⟨h.1, fun i hi => hg.cell (h.2 i hi) hn⟩
theorem BRow.lt {w : World} {g n : Nat} {xs : List Bool} (h : BRow w g n xs) (hn : 0 < n) : g < w.heap.size := World.block_lt_of_cell? w ⟨g, 0, none⟩ (h.2 0 hn)

/-- The places that are so. -/
def whoF (xs : List Bool) : Nat → List Int
  | 0 => []
  | k + 1 => whoF xs k ++ (if xs.getD k false then [(k : Int)] else [])
theorem whoF_len (xs : List Bool) : ∀ k, (whoF xs k).length ≤ k
  | 0 => by simp [whoF]
  | k + 1 => by have := whoF_len xs k; unfold whoF; split <;> simp <;> omega
theorem whoF_mem (xs : List Bool) : ∀ k, ∀ x ∈ whoF xs k, 0 ≤ x ∧ x < k
  | 0 => by simp [whoF]
  | k + 1 => by
    intro x hx
    unfold whoF at hx
    rcases List.mem_append.1 hx with h | h
    · have := whoF_mem xs k x h; omega
    · split at h
      · simp at h; omega
      · simp at h

abbrev encI : Int → Value := Value.int .i64
theorem info_i64 : (Tryz.prog.info? 3).map (fun i => (i.zero, i.size, i.bytes)) = some (some (.int .i64 0), 1, 8) := by kernel_rfl
theorem elem_i64 : ∃ i, Elem Tryz.prog 3 i (.int .i64 0) 1 8 := info_parts info_i64
theorem elem_u64 : ∃ i, Elem Tryz.prog 27 i (.int .u64 0) 1 8 := info_parts info_u64
theorem elem_u8 : ∃ i, Elem Tryz.prog 5 i (.int .u8 0) 1 1 := info_parts info_u8
theorem info_bool : (Tryz.prog.info? 4).map (fun i => (i.zero, i.size, i.bytes)) = some (some (.bool false), 1, 1) := by kernel_rfl
theorem elem_bool : ∃ i, Elem Tryz.prog 4 i (.bool false) 1 1 := info_parts info_bool

/-- What is owned is a row of numbers. -/
theorem ints_own {w : World} {base n : Nat} {v : Value} {ks : List Int} (h : w.ownsRow base 3 1 v n (ks.map encI)) : ∃ wa c, v = .slice wa n c ∧ Ints .i64 w wa ks ∧ n = ks.length := by
  have hl : ks.length = n := by have := h.1; simpa using this
  rcases h.two with hv | ⟨g, cap, hv⟩
  · subst hv
    have hn : n = 0 := by
      rcases h.2 with h | ⟨_, _, _, h, _⟩
      · exact h.2
      · cases h
    exact ⟨none, 0, by rw [hn], fun i hi => by omega, hl.symm⟩
  · subst hv
    refine ⟨_, _, rfl, fun i hi => ⟨_, rfl, ?_⟩, hl.symm⟩
    have hc := h.cellAt i (by omega)
    rw [add0, hc]
    simp [List.getD_eq_getElem?_getD, hi]

theorem who_calls {w : World} {g n c : Nat} {xs : List Bool} (hb : BRow w g n xs) (hn : n ≤ 1000000) :
    Calls Tryz.prog 75 #[.slice (some ⟨g, 0, none⟩) n c] w fun e w' => ∃ v, e = .returned v ∧ w'.ownsRow w.heap.size 3 1 v (whoF xs n).length ((whoF xs n).map encI) ∧ w.grownBy w' none := by
  have HB := Lib.hid hb
  clear hb
  obtain ⟨i0, hi⟩ := elem_i64
  have HI := Lib.hid hi
  clear hi
  go_enter Tryz.func75, Tryz.ntmps75
  go_wp2
  go_loopw [8, 3] (fun v8 v3 wr => ∃ j : Nat, v8 = .int .i64 (j : Int) ∧ j ≤ n ∧ wr.ownsRow w.heap.size 3 1 v3 (whoF xs j).length ((whoF xs j).map encI) ∧ w.grownBy wr none) (fun v8 _ _ => n - (intOf v8).toNat)
  case atStart => exact ⟨0, rfl, by omega, World.ownsRow_nil _ _ _ _, World.grownBy.refl _ _⟩
  case round =>
    obtain ⟨j, rfl, hj, ho, hg⟩ := hrel
    have HO := Lib.hid ho
    have HG := Lib.hid hg
    clear ho
    by_cases hlt : j < n
    · have hc := (HB.out.g hg).2 j hlt
      clear hg
      have hw : whoF xs (j + 1) = whoF xs j ++ (if xs.getD j false then [(j : Int)] else []) := rfl
      obtain ⟨b, hbb⟩ : ∃ b, b = xs.getD j false := ⟨_, rfl⟩
      rw [← hbb] at hc hw
      have HW := Lib.hid hw
      have hwl := whoF_len xs j
      clear hw hbb
      cases b with
      | false =>
        go_wp2
        exact ⟨⟨j + 1, by simp, by omega, by rw [HW.out]; simpa using HO.out, HG.out⟩, by simp [intOf]; omega⟩
      | true =>
        go_wp2_with (at_builtin; refine wpList_push rfl _ _ 62 rfl w.heap.size 3 i0 (.int .i64 0) 1 8 Tryz.underlying62 HI.out rfl (by decide) _ (whoF xs j).length ((whoF xs j).map encI) rfl HO.out rfl rfl (by simp [Value.oneCell']) (by unfold maxLen; omega) (by omega) HG.out.size ?_; intro v6 w6 h6 hg6; have H6 := Lib.hid h6; have HG6 := Lib.hid (own_grown HG.out HO.out (Nat.le_refl _) hg6); clear h6 hg6)
        exact ⟨⟨j + 1, by simp, by omega, by rw [HW.out]; simpa using H6.out, HG6.out⟩, by simp [intOf]; omega⟩
    · have hje : j = n := by omega
      subst hje
      clear hg
      go_wp2
      go_ret
      exact ⟨_, rfl, HO.out, HG.out⟩
end Go.Proofs.YtndfpmboanohcaaGreatDoor
