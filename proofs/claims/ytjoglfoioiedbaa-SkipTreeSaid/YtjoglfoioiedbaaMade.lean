/- Contract of psephoslaw12.Made: what numbers make is a tree of up to 31 blocks and its model. -/
import Derived.Test.YtjoglfoioiedbaaTree1
namespace Go.Proofs.Ytjoglfoioiedbaa
open Go.RowKit Go.Maps SkipPure

/-- The model's cells: blocks 1 .. L with their parents and slots. -/
def mcells (P S : Int → Int) : Nat → List Value
  | 0 => []
  | L + 1 => mcells P S L ++ [Value.int .u64 ((L : Int) + 1), Value.int .u64 (P ((L : Int) + 1)), Value.int .i64 (S ((L : Int) + 1))]
theorem mcells_succ (P S : Int → Int) (L : Nat) : mcells P S (L + 1) = mcells P S L ++ [Value.int .u64 ((L : Int) + 1), Value.int .u64 (P ((L : Int) + 1)), Value.int .i64 (S ((L : Int) + 1))] := rfl
theorem mcells_length (P S : Int → Int) : ∀ L : Nat, (mcells P S L).length = L * 3
  | 0 => rfl
  | L + 1 => by rw [mcells_succ, List.length_append, mcells_length P S L]; simp; omega
theorem mcells_get (P S : Int → Int) : ∀ (L i : Nat), i < L → (mcells P S L)[i * 3]? = some (.int .u64 ((i : Int) + 1)) ∧ (mcells P S L)[i * 3 + 1]? = some (.int .u64 (P ((i : Int) + 1))) ∧ (mcells P S L)[i * 3 + 2]? = some (.int .i64 (S ((i : Int) + 1)))
  | 0, _, h => by omega
  | L + 1, i, h => by
    have hl := mcells_length P S L
    rw [mcells_succ]
    by_cases e : i = L
    · subst e
      rw [List.getElem?_append_right (by omega), List.getElem?_append_right (by omega), List.getElem?_append_right (by omega), hl]
      rw [show i * 3 - i * 3 = 0 by omega, show i * 3 + 1 - i * 3 = 1 by omega, show i * 3 + 2 - i * 3 = 2 by omega]
      exact ⟨rfl, rfl, rfl⟩
    · rw [List.getElem?_append_left (by omega), List.getElem?_append_left (by omega), List.getElem?_append_left (by omega)]
      exact mcells_get P S L i (by omega)

def iset (P : Int → Int) (k x : Int) : Int → Int := fun r => if r = k then x else P r
theorem mcells_set (P S : Int → Int) (x y k : Int) : ∀ L : Nat, (L : Int) < k → mcells (iset P k x) (iset S k y) L = mcells P S L
  | 0, _ => rfl
  | L + 1, h => by
    rw [mcells_succ, mcells_succ, mcells_set P S x y k L (by omega)]
    simp only [iset]
    rw [if_neg (by omega), if_neg (by omega)]

def ftree (L : Nat) (P S H : Int → Int) : Int → Option (Int × Int × Int) := fun r => if 1 ≤ r ∧ r ≤ L then some (P r, S r, H r) else none
theorem ftree_set (L : Nat) (P S H : Int → Int) (x y z : Int) : tset (ftree L P S H) ((L : Int) + 1) (x, y, z) = ftree (L + 1) (iset P (L + 1) x) (iset S (L + 1) y) (iset H (L + 1) z) := by
  funext r
  unfold tset ftree iset
  by_cases e : r = (L : Int) + 1
  · subst e
    simp
    omega
  · simp only [e, if_false]
    by_cases c : 1 ≤ r ∧ r ≤ (L : Int)
    · rw [if_pos c, if_pos (by omega)]
    · rw [if_neg c, if_neg (by omega)]

/-- Parents and slots as Made makes them. -/
def Well (L : Nat) (P S H : Int → Int) : Prop :=
  1 ≤ L ∧ L ≤ 31 ∧ P 1 = 1 ∧ (∀ r, 2 ≤ r → r ≤ (L : Int) → 1 ≤ P r ∧ P r < r) ∧ ∀ r, 1 ≤ r → r ≤ (L : Int) → 0 ≤ S r ∧ S r ≤ 10 * L ∧ 0 ≤ H r ∧ H r ≤ L

def MadeAt (w0 w : World) (tp tb g c L : Nat) (P S H : Int → Int) : Prop :=
  Well L P S H ∧ w.ownsRow w0.heap.size 45 3 (.slice (some ⟨g, 0, none⟩) L c) L (mcells P S L) ∧ TreeAt w tp tb L 1 (ftree L P S H) ∧ g ≠ tp ∧ g ≠ tb ∧ tb < w.heap.size ∧ w0.heap.size ≤ tb ∧ w0.grownBy w none

def ArgU8 (w : World) (a : Option Addr) (len : Nat) : Prop := ∀ i, i < len → ∃ ad x, a = some ad ∧ w.cell? (ad.add i) = some (.int .u8 x) ∧ 0 ≤ x ∧ x ≤ 255

theorem info45 : (Try.prog.info? 45).map (fun i => (i.zero, i.size, i.bytes)) = some (some (.agg #[.int .u64 0, .int .u64 0, .int .i64 0]), 3, 24) := by kernel_rfl

theorem made_next {w wr wx w3 w4 : World} {tp tb g c k g3 c3 : Nat} {P S H : Int → Int} {q s d h0 : Int} {o : Obj}
    (hM : MadeAt w wr tp tb g c (k + 1) P S H) (hgw : wr.grownBy wx none) (ht3 : TreeAt w3 tp tb (k + 1 + 1) 1 (tset (ftree (k + 1) P S H) ((k : Int) + 2) (q, s + 1 + d, h0 + 1))) (hg3 : wx.grownBy w3 (some tb))
    (hown3 : w4.ownsRow w.heap.size 45 3 (.slice (some ⟨g3, 0, none⟩) (k + 1 + 1) c3) (k + 1 + 1) (mcells P S (k + 1) ++ [.int .u64 (↑k + 2), .int .u64 q, .int .i64 (s + 1 + d)])) (hgr : (w3.alloc o).grownBy w4 (Value.slice (some ⟨g, 0, none⟩) (k + 1) c).ownBlock)
    (hat : (Value.slice (some ⟨g, 0, none⟩) (k + 1) c).ownBlock = some g3 ∨ g3 = (w3.alloc o).heap.size)
    (hq1 : 1 ≤ q) (hq2 : q ≤ (k : Int) + 1) (hs0 : 0 ≤ s) (hs1 : s ≤ 10 * ((k + 1 : Nat) : Int)) (hh0 : 0 ≤ h0) (hh1 : h0 ≤ ((k + 1 : Nat) : Int)) (hd0 : 0 ≤ d) (hd1 : d ≤ 3) (hk : k < 30) :
    MadeAt w w4 tp tb g3 c3 (k + 1 + 1) (iset P ((k : Int) + 2) q) (iset S ((k : Int) + 2) (s + 1 + d)) (iset H ((k : Int) + 2) (h0 + 1)) := by
  obtain ⟨⟨w1, w2, w3', w4', w5⟩, hrow, htr, hgp, hgb, htb, hwb, hgrown⟩ := hM
  have hs1' := hgw.size
  have hs2' := hg3.size
  have hs3' := hgr.size
  have hs4' : (w3.alloc o).heap.size = w3.heap.size + 1 := by simp
  have htp := (Array.getElem?_eq_some_iff.1 htr.2.1).1
  refine ⟨⟨by omega, by omega, ?_, fun r h1 h2 => ?_, fun r h1 h2 => ?_⟩, ?_, ?_, ?_, ?_, by omega, hwb, ?_⟩
  · unfold iset; rw [if_neg (by omega)]; exact w3'
  · unfold iset
    by_cases e : r = (k : Int) + 2
    · rw [if_pos e]; omega
    · rw [if_neg e]; exact w4' r h1 (by omega)
  · unfold iset
    by_cases e : r = (k : Int) + 2
    · rw [if_pos e, if_pos e]; omega
    · rw [if_neg e, if_neg e]
      have := w5 r h1 (by omega)
      omega
  · have e : mcells (iset P ((k : Int) + 2) q) (iset S ((k : Int) + 2) (s + 1 + d)) (k + 1 + 1) = mcells P S (k + 1) ++ [.int .u64 (↑k + 2), .int .u64 q, .int .i64 (s + 1 + d)] := by
      rw [mcells_succ, mcells_set P S q (s + 1 + d) ((k : Int) + 2) (k + 1) (by omega)]
      have e2 : ((k + 1 : Nat) : Int) + 1 = (k : Int) + 2 := by omega
      rw [e2]
      simp [iset]
    rw [e]
    exact hown3
  · have e := ftree_set (k + 1) P S H q (s + 1 + d) (h0 + 1)
    have e2 : ((k + 1 : Nat) : Int) + 1 = (k : Int) + 2 := by omega
    rw [e2] at e
    rw [← e]
    exact (ht3.kept (World.grownBy_alloc w3 o none) (by simp)).kept hgr ⟨fun h => hgp (Option.some.inj h), fun h => hgb (Option.some.inj h)⟩
  · rcases hat with h | h
    · have : g = g3 := Option.some.inj h
      omega
    · omega
  · rcases hat with h | h
    · have : g = g3 := Option.some.inj h
      omega
    · omega
  · have h1 := (hgrown.andThen hgw (fun j e => by cases e)).andThen hg3 (fun j e => Or.inl (by cases e; exact hwb))
    have hgl := (hrow.lt g rfl).1
    exact (h1.andThen (World.grownBy_alloc w3 o none) (fun j e => by cases e)).andThen hgr (fun j e => Or.inl (by have : g = j := Option.some.inj e; omega))

set_option maxRecDepth 100000 in
set_option maxHeartbeats 2000000 in
theorem made_calls (w : World) (a : Option Addr) (len cap : Nat) (ha : ArgU8 w a len) (hlen : len ≤ 140737488351232) :
    Calls Try.prog 17 #[.slice a len cap] w fun e w' => ∃ tp tb g c L P S H, e = .returned (.tuple #[.pointer (some ⟨tp, 0, none⟩), .slice (some ⟨g, 0, none⟩) L c]) ∧ MadeAt w w' tp tb g c L P S H := by
  go_enter Try.func17, Try.ntmps17
  go_wp2_with fail
  refine (tof_calls w ⟨by omega, by omega⟩).mono ?_
  rintro e w1 ⟨tp, tb, rfl, ht, htp, htb, hg⟩
  have HT := Lib.hid ht
  have HG := Lib.hid hg
  clear ht hg
  go_wp2
  go_loopw [5, 15] (fun v5 v15 wr => ∃ (k g c : Nat) (P S H : Int → Int), v15 = .int .i64 (k : Int) ∧ v5 = .slice (some ⟨g, 0, none⟩) (k + 1) c ∧ k ≤ 30 ∧ k ≤ len ∧ MadeAt w wr tp tb g c (k + 1) P S H) (fun _ v15 _ => 40 - (intOf v15).toNat)
  case atStart => 
    refine ⟨0, w1.heap.size, 1, fun _ => 1, fun _ => 0, fun _ => 0, rfl, rfl, by omega, by omega, ⟨by omega, by omega, rfl, fun r h1 h2 => by omega, fun r h1 h2 => by simp⟩, ?_, ?_, ?_, ?_, ?_, htb, HG.out.andThen (World.grownBy_alloc w1 _ none) (fun j e => by cases e)⟩
    · have := World.ownsRow_lit (base := w.heap.size) (e := 45) (size := 3) w1 #[Value.int .u64 1, Value.int .u64 1, Value.int .i64 0] 1 HG.out.size (by unfold maxLen; omega) (by simp)
      simpa [mcells] using this
    · have h1 := HT.out.kept (World.grownBy_alloc w1 (Obj.cells #[Value.int .u64 1, Value.int .u64 1, Value.int .i64 0] 45) none) (by simp)
      have e : (fun x : Int => if x = 1 then some ((1 : Int), (0 : Int), (0 : Int)) else none) = ftree (0 + 1) (fun _ => 1) (fun _ => 0) (fun _ => 0) := by
        funext x
        unfold ftree
        by_cases c : x = 1
        · rw [if_pos c, if_pos (by omega)]
        · rw [if_neg c, if_neg (by omega)]
      rw [← e]
      exact h1
    · have := (Array.getElem?_eq_some_iff.1 HT.out.2.1).1; omega
    · have := HT.out.2.2.lt; omega
    · have := HT.out.2.2.lt; simp; omega
  case round =>
    obtain ⟨k, g, c, P, S, H, rfl, rfl, hk, hkl, hM⟩ := hrel
    have HM := Lib.hid hM
    clear hM
    by_cases hlt : k < len
    · by_cases h30 : k = 30
      · have g0 : ((k : Int) == 30) = true := beq_iff_eq.2 (by omega)
        obtain ⟨ad, x, rfl, hc, hc0, hc1⟩ := ha k hlt
        have hcw := HM.out.2.2.2.2.2.2.2.cell hc (by simp)
        have HA := Lib.hid ha
        clear ha hc
        clear h30
        go_wp2
        go_ret2
        exact ⟨tp, tb, g, c, _, P, S, H, rfl, HM.out⟩
      · have g0 : ((k : Int) == 30) = false := beq_eq_false_iff_ne.2 (by omega)
        obtain ⟨ad, x, rfl, hc, hc0, hc1⟩ := ha k hlt
        have hcw := HM.out.2.2.2.2.2.2.2.cell hc (by simp)
        have HA := Lib.hid ha
        clear ha hc
        have hm0 := Int.emod_nonneg x (show (k : Int) + 1 ≠ 0 by omega)
        have hm1 := Int.emod_lt_of_pos x (show 0 < (k : Int) + 1 by omega)
        obtain ⟨q, hq⟩ : ∃ q, q = ((x % ((k : Int) + 1)).toNat : Int) + 1 := ⟨_, rfl⟩
        have hget := mcells_get P S (k + 1) (x % ((k : Int) + 1)).toNat (by omega)
        rw [← hq] at hget
        have hq1 : 1 ≤ q := by omega
        have hq2 : q ≤ (k : Int) + 1 := by omega
        have hrow := HM.out.2.1
        have c0 := (hrow.cellAt ((x % ((k : Int) + 1)).toNat * 3) (by omega)).trans hget.1
        have c1 := (hrow.cellAt ((x % ((k : Int) + 1)).toNat * 3 + 1) (by omega)).trans hget.2.1
        have c2 := (hrow.cellAt ((x % ((k : Int) + 1)).toNat * 3 + 2) (by omega)).trans hget.2.2
        have hS := HM.out.1.2.2.2.2 q hq1 (by omega)
        obtain ⟨hS0, hS1, hH0, hH1⟩ := hS
        obtain ⟨pq, hpq⟩ : ∃ pq, pq = P q := ⟨_, rfl⟩
        obtain ⟨sq, hsq⟩ : ∃ sq, sq = S q := ⟨_, rfl⟩
        rw [← hpq] at c1
        rw [← hsq] at c2 hS0 hS1
        have HPQ := Lib.hid hpq
        have HSQ := Lib.hid hsq
        clear hget hrow hpq hsq hq
        have hdv : x / 64 ≤ 3 := by omega
        have hdv0 : 0 ≤ x / 64 := by omega
        have HX := Lib.hid hm0
        have HY := Lib.hid hm1
        go_wp2_with fail
        have hgw : wr.grownBy ((wr.alloc (Obj.cells #[Value.int IntKind.u64 q, Value.int IntKind.u64 pq, Value.int IntKind.i64 sq] 45)).alloc (Obj.cells #[Value.int IntKind.u64 (↑k + 2), Value.int IntKind.u64 q, Value.int IntKind.i64 (sq + 1 + x / 64)] 45)) none := (World.grownBy_alloc wr _ none).andThen (World.grownBy_alloc _ _ none) (fun j e => by cases e)
        have htr := HM.out.2.2.1.kept hgw (by simp)
        have hFq : ftree (k + 1) P S H q = some (pq, sq, H q) := by
          unfold ftree
          rw [if_pos ⟨hq1, by omega⟩, HPQ.out, HSQ.out]
        have hFn : ftree (k + 1) P S H ((k : Int) + 2) = none := by
          unfold ftree
          rw [if_neg (by omega)]
        refine (tadd_calls htr ⟨by omega, by omega⟩ ⟨by omega, by omega⟩ hFq hFn (by omega) (by omega) ⟨hH0, by omega⟩).mono ?_
        rintro e w3 ⟨rfl, ht3, hg3⟩
        have hgs : wr.heap.size + 2 ≤ w3.heap.size := by have := hg3.size; simp at this; omega
        have hbx : w3.heap[wr.heap.size + 1]? = some (.cells #[Value.int IntKind.u64 (↑k + 2), Value.int IntKind.u64 q, Value.int IntKind.i64 (sq + 1 + x / 64)] 45 (0, 0)) := by
          have h1 := (MapKept.heap_alloc (wr.alloc (Obj.cells #[Value.int IntKind.u64 q, Value.int IntKind.u64 pq, Value.int IntKind.i64 sq] 45)) (Obj.cells #[Value.int IntKind.u64 (↑k + 2), Value.int IntKind.u64 q, Value.int IntKind.i64 (sq + 1 + x / 64)] 45)).1
          have h2 := hg3.block (wr.heap.size + 1) (by simp) (fun e => by have h : wr.heap.size + 1 = tb := Option.some.inj e; have := HM.out.2.2.2.2.2.1; omega)
          rw [h2]
          simpa using h1
        have b0 : w3.cell? ⟨wr.heap.size + 1, 0, none⟩ = some (.int .u64 (↑k + 2)) := cel hbx 0
        have b1 : w3.cell? ⟨wr.heap.size + 1, 1, none⟩ = some (.int .u64 q) := cel hbx 1
        have b2 : w3.cell? ⟨wr.heap.size + 1, 2, none⟩ = some (.int .i64 (sq + 1 + x / 64)) := cel hbx 2
        have hrow3 := (HM.out.2.1.kept hgw (Or.inr (by simp [Value.ownBlock]))).kept hg3 (Or.inr (by simp [Value.ownBlock]; exact HM.out.2.2.2.2.1))
        have HROW := Lib.hid hrow3
        have HT3 := Lib.hid ht3
        have HG3 := Lib.hid hg3
        have HGW := Lib.hid hgw
        clear hrow3 ht3 hg3 hgw htr hFq hFn c0 c1 c2 hbx
        obtain ⟨i0, hi, hz0, hz1, hz2⟩ := info_parts info45
        have HI0 := Lib.hid hi
        have HZ0 := Lib.hid hz0
        have HZ1 := Lib.hid hz1
        have HZ2 := Lib.hid hz2
        clear hi hz0 hz1 hz2
        go_wp2_with (at_builtin; refine wpList_append_lies _ rfl _ _ 41 rfl w.heap.size 45 i0 (.agg #[.int .u64 0, .int .u64 0, .int .i64 0]) 3 24 Try.underlying41 HI0.out HZ0.out HZ1.out HZ2.out rfl (by decide) _ (k + 1) (mcells P S (k + 1)) rfl (HROW.out.alloc _) ⟨w3.heap.size, 0, none⟩ 1 1 [.int .u64 (↑k + 2), .int .u64 q, .int .i64 (sq + 1 + x / 64)] rfl rfl (World.news_of_block (MapKept.heap_alloc _ _).1) (by simp [Value.oneCell']) (by decide) (by unfold maxLen; omega) (by omega) (by simp; have := HG3.out.size; have := HM.out.2.2.2.2.2.2.2.size; simp at *; omega) _ rfl ?_; intro g3 c3 w4 hown3 hgrow3 hat3 hlt3; have HOWN3 := Lib.hid hown3; have HGR3 := Lib.hid hgrow3; clear hown3 hgrow3)
        refine ⟨⟨k + 1, g3, c3, iset P ((k : Int) + 2) q, iset S ((k : Int) + 2) (sq + 1 + x / 64), iset H ((k : Int) + 2) (H q + 1), rfl, rfl, by omega, by omega, ?_⟩, by simp [intOf]; omega⟩
        have hq3 := made_next HM.out HGW.out HT3.out HG3.out (HOWN3.out) HGR3.out hat3
        exact hq3 hq1 hq2 hS0 hS1 hH0 hH1 hdv0 hdv (by omega)
    · go_wp2
      go_ret2
      exact ⟨tp, tb, g, c, _, P, S, H, rfl, HM.out⟩

theorem arg_of_row {w : World} {a : Option Addr} {len cap : Nat} {zs : List Int} (h : (a = none ∧ len = 0 ∧ cap = 0 ∧ zs = []) ∨ ∃ x, a = some x ∧ len ≤ cap ∧ cap ≤ maxLen ∧ zs.length = cap ∧ (∀ i, i < zs.length → w.cell? (x.add i) = some (.int .u8 (zs.getD i 0))) ∧ ∀ n ∈ zs, (Lit.int .u8 n).wf = true) : ArgU8 w a len := by
  intro i hi
  rcases h with ⟨_, h, _⟩ | ⟨x, e, h1, _, h3, h4, h5⟩
  · omega
  · have hz : i < zs.length := by omega
    have hb := h5 (zs.getD i 0) (by rw [List.getD_eq_getElem?_getD, List.getElem?_eq_getElem hz]; simp)
    have h6 : 0 ≤ zs.getD i 0 ∧ zs.getD i 0 ≤ 255 := by simpa [Lit.wf, IntKind.min, IntKind.max, IntKind.signed, IntKind.bits] using hb
    exact ⟨x, _, e, h4 i hz, h6⟩

theorem u8_bd {a : Int} (h : (Lit.int .u8 a).wf = true) : 0 ≤ a ∧ a ≤ 255 := by
  simpa [Lit.wf, IntKind.min, IntKind.max, IntKind.signed, IntKind.bits] using h
end Go.Proofs.Ytjoglfoioiedbaa
