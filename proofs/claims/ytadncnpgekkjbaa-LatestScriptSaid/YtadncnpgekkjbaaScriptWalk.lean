/- The walk of LatestScript: deed by deed the votes are what the model says. -/
import Derived.Test.YtadncnpgekkjbaaVotes
import Derived.BigQuiet
import Derived.Deep.QuietTactic
namespace Go.Proofs.Ytadncnpgekkjbaa.Script
open Go.RowKit
set_option linter.unusedSimpArgs false
set_option linter.unusedVariables false

/-- Votes and model, alike. -/
def Both (w0 w : World) (gv gw n : Nat) (V : Nat → Ent) : Prop :=
  VAt w gv n V ∧ VAt w gw n V ∧ gv ≠ gw ∧ w0.heap.size ≤ gv ∧ w0.heap.size ≤ gw ∧ w0.grownBy w none

theorem Both.kept {w0 w w' : World} {gv gw n : Nat} {V : Nat → Ent} (h : Both w0 w gv gw n V) (hg : w.grownBy w' none) : Both w0 w' gv gw n V := by
  obtain ⟨h1, h2, h3, h4, h5, h6⟩ := h
  exact ⟨h1.kept hg (by simp), h2.kept hg (by simp), h3, h4, h5, h6.andThen hg (fun j e => by cases e)⟩

/-- Both are written alike. -/
theorem Both.put {w0 w w1 : World} {gv gw n : Nat} {V : Nat → Ent} {i : Nat} {x : Ent} (h : Both w0 w gv gw n V) (hi : i < n) (h1 : VAt w1 gv n (vset V i x)) (hg : w.grownBy w1 (some gv)) :
    Both w0 ((((w1.setCell ⟨gw, i * 4, none⟩ (.bool x.h)).setCell ⟨gw, i * 4 + 1, none⟩ (.int .i64 x.e)).setCell ⟨gw, i * 4 + 2, none⟩ (.int .u64 x.r)).setCell ⟨gw, i * 4 + 3, none⟩ (.bool x.b)) gv gw n (vset V i x) := by
  obtain ⟨_, h2, h3, h4, h5, h6⟩ := h
  have hw := h2.kept hg (fun e => h3 (Option.some.inj e))
  have hgg := gtrans (gtrans (gtrans (gset w1 gw (i * 4) (.bool x.h)) (gset _ gw (i * 4 + 1) (.int .i64 x.e))) (gset _ gw (i * 4 + 2) (.int .u64 x.r))) (gset _ gw (i * 4 + 3) (.bool x.b))
  exact ⟨h1.kept hgg (fun e => h3 (Option.some.inj e).symm), hw.put hi x, h3, h4, h5, (h6.andThen hg (fun j e => Or.inl (by cases e; exact h4))).andThen hgg (fun j e => Or.inl (by cases e; exact h5))⟩

theorem Both.ban {w0 w w1 : World} {gv gw n : Nat} {V : Nat → Ent} {i : Nat} (h : Both w0 w gv gw n V) (hi : i < n) (h1 : VAt w1 gv n (vset V i ⟨(V i).h, (V i).e, (V i).r, true⟩)) (hg : w.grownBy w1 (some gv)) :
    Both w0 (w1.setCell ⟨gw, i * 4 + 3, none⟩ (.bool true)) gv gw n (vset V i ⟨(V i).h, (V i).e, (V i).r, true⟩) := by
  obtain ⟨_, h2, h3, h4, h5, h6⟩ := h
  have hw := h2.kept hg (fun e => h3 (Option.some.inj e))
  have hgg := gset w1 gw (i * 4 + 3) (.bool true)
  exact ⟨h1.kept hgg (fun e => h3 (Option.some.inj e).symm), hw.ban hi, h3, h4, h5, (h6.andThen hg (fun j e => Or.inl (by cases e; exact h4))).andThen hgg (fun j e => Or.inl (by cases e; exact h5))⟩

/-- Who is banned already is banned once more in the model alone. -/
theorem Both.banned {w0 w : World} {gv gw n : Nat} {V : Nat → Ent} {i : Nat} (h : Both w0 w gv gw n V) (hi : i < n) (hb : (V i).b = true) :
    Both w0 (w.setCell ⟨gw, i * 4 + 3, none⟩ (.bool true)) gv gw n V := by
  obtain ⟨h1, h2, h3, h4, h5, h6⟩ := h
  have hgg := gset w gw (i * 4 + 3) (.bool true)
  have e : vset V i ⟨(V i).h, (V i).e, (V i).r, true⟩ = V := by
    funext j
    unfold vset
    by_cases c : j = i
    · subst c
      rw [if_pos rfl]
      have : V j = ⟨(V j).h, (V j).e, (V j).r, (V j).b⟩ := rfl
      rw [hb] at this
      exact this.symm
    · rw [if_neg c]
  have h2' := h2.ban hi
  rw [e] at h2'
  exact ⟨h1.kept hgg (fun e => h3 (Option.some.inj e).symm), h2', h3, h4, h5, h6.andThen hgg (fun j e => Or.inl (by cases e; exact h5))⟩

def ArgAct (w : World) (a : Option Addr) (len : Nat) : Prop := ∀ i, i < len → ∃ (ad : Addr) (op who when_ root : Int), a = some ad ∧ w.cell? (ad.add (i * 4)) = some (.int .u8 op) ∧
  w.cell? ⟨(ad.add (i * 4)).block, (ad.add (i * 4)).off + 1, none⟩ = some (.int .i8 who) ∧ w.cell? ⟨(ad.add (i * 4)).block, (ad.add (i * 4)).off + 2, none⟩ = some (.int .i8 when_) ∧ w.cell? ⟨(ad.add (i * 4)).block, (ad.add (i * 4)).off + 3, none⟩ = some (.int .u64 root) ∧
  (0 ≤ op ∧ op ≤ 255) ∧ (-128 ≤ who ∧ who ≤ 127) ∧ (-128 ≤ when_ ∧ when_ ≤ 127)

theorem grown_of_below {w w' : World} (h : Below w.heap.size w w') : w.grownBy w' none := ⟨h.os, h.tape, h.output, h.size, fun i hi _ => h.block i hi⟩
theorem awake_calls (w : World) : Calls Try.prog 9 #[] w fun e w' => e = .returned (.bool true) ∧ w.grownBy w' none :=
  (PLatestScript.psephoslaw11_awake.calls true w rfl).mono fun _ _ ⟨h1, h2⟩ => ⟨h1, grown_of_below h2⟩
theorem drewN_grown (w : World) (n : Nat) : w.grownBy (w.drewN n) none := ⟨rfl, rfl, rfl, Nat.le_refl _, fun _ _ _ => rfl⟩

theorem eqA33 (d : Nat) (w : World) (x0 y0 : Bool) (x1 y1 : Int) (x2 y2 : Int) (x3 y3 : Bool) :
    (Op.equalIn (d + 2) 33 (.agg #[.bool x0, .int .i64 x1, .int .u64 x2, .bool x3]) (.agg #[.bool y0, .int .i64 y1, .int .u64 y2, .bool y3])).run Try.prog w = .ok (x0 == y0 && (x1 == y1 && (x2 == y2 && (x3 == y3)))) w := by
  refine YtadncnpgekkjbaaW.PrintWords.eqA_of Try.underlying33 (by kernel_rfl) ?_
  refine YtadncnpgekkjbaaW.PrintWords.eqf_cons (by rfl) (by go_simp; rfl) (by go_simp; rfl) (by go_simp) ?_
  refine YtadncnpgekkjbaaW.PrintWords.eqf_cons (by rfl) (by go_simp; rfl) (by go_simp; rfl) (by go_simp) ?_
  refine YtadncnpgekkjbaaW.PrintWords.eqf_cons (by rfl) (by go_simp; rfl) (by go_simp; rfl) (by go_simp) ?_
  exact YtadncnpgekkjbaaW.PrintWords.eqf_last (by rfl) (by go_simp; rfl) (by go_simp; rfl) (by go_simp)
attribute [local go_sem high] eqA33
attribute [local go_sem] max2' min2' max_two' min_two'

set_option maxRecDepth 100000 in
set_option maxHeartbeats 16000000 in
theorem script_walk (w : World) (n0 : Int) (ar : Option Addr) (len cap : Nat) (ha : ArgAct w ar len) (hlen : len ≤ 9223372036854775807) (hn0 : 0 ≤ n0) (hn1 : n0 ≤ 255) :
    Calls Try.prog 3 #[.int .u8 n0, .slice ar len cap] w fun e w' => e = .returned (.bool true) ∧ w.grownBy w' none := by
  have HA := Lib.hid ha
  clear ha
  obtain ⟨n, hn⟩ : ∃ n : Nat, (n : Int) = n0 % 8 := ⟨(n0 % 8).toNat, by omega⟩
  have hn7 : n ≤ 7 := by omega
  go_enter Try.func3, Try.ntmps3
  go_wp2_with fail
  refine (awake_calls w).mono ?_
  rintro e w0 ⟨rfl, hg0⟩
  have HG0 := Lib.hid hg0
  clear hg0
  go_wp2_with fail
  rw [← hn]
  refine (of_calls w0 n (by omega)).mono ?_
  rintro e w1 ⟨gv, rfl, hv, hgv, hg⟩
  have HV := Lib.hid hv
  have HG1 := Lib.hid (HG0.out.andThen hg (fun j e => by cases e))
  have hm := run_make33 24 Try.underlying24 n (by omega) w1
  have HN := Lib.hid hn
  have hgv1 := hv.lt
  have hs0 := HG0.out.size
  have hs1 := hg.size
  clear hv hg hn
  go_wp2
  have HB := Lib.hid (show Both w (w1.alloc (.cells (madeCells #[Value.bool false, .int .i64 0, .int .u64 0, .bool false] (n * 4)) 33)) gv w1.heap.size n (fun _ => E0) from
    ⟨HV.out.kept (World.grownBy_alloc w1 _ none) (by simp), VAt.made w1 n, by omega, by omega, by omega, HG1.out.andThen (World.grownBy_alloc w1 _ none) (fun j e => by cases e)⟩)
  obtain ⟨gw, hgw⟩ : ∃ gw, gw = w1.heap.size := ⟨_, rfl⟩
  rw [← hgw] at HB ⊢
  clear hgw
  go_loopw [31] (fun v31 wr => ∃ (k : Nat) (V : Nat → Ent), v31 = .int .i64 (k : Int) ∧ k ≤ len ∧ Both w wr gv gw n V) (fun v31 _ => len - (intOf v31).toNat)
  case atStart => exact ⟨0, _, rfl, by omega, HB.out⟩
  case round =>
    obtain ⟨k, V, rfl, hk, hB⟩ := hrel
    obtain ⟨wa, rfl⟩ : ∃ wa : World, wa = wr := ⟨_, rfl⟩
    by_cases hlt : k < len
    · obtain ⟨ad, op, who, when_, root, rfl, a0, a1, a2, a3, ho, hwho, hwhen⟩ := HA.out k hlt
      obtain ⟨ho0, ho1⟩ := ho
      obtain ⟨hwho0, hwho1⟩ := hwho
      obtain ⟨hwhen0, hwhen1⟩ := hwhen
      have hgr := hB.2.2.2.2.2
      replace a0 := hgr.cell a0 (by simp)
      replace a1 := hgr.cell a1 (by simp)
      replace a2 := hgr.cell a2 (by simp)
      replace a3 := hgr.cell a3 (by simp)
      have hBA := hB.kept (World.grownBy_alloc wa (Obj.cells #[Value.int .u8 op, Value.int .i8 who, Value.int .i8 when_, Value.int .u64 root] 30) none)
      have HBA := Lib.hid hBA
      have hl1 := hB.1.lt
      have hl2 := hB.2.1.lt
      clear hB hgr hm hBA
      have hx0 : 0 ≤ op % 5 := by omega
      by_cases h4 : op % 5 = 4
      · have g4 : (op % 5 == 4) = true := beq_iff_eq.2 h4
        clear h4
        by_cases hneg : who < 0
        · have g5 : decide (0 ≤ who) = false := decide_eq_false (by omega)
          go_wp2_with fail
          refine (ban_out (by omega) (Or.inl hneg)).mono ?_
          rintro e w2 ⟨rfl, rfl⟩
          go_wp2_with fail
          refine (get_out (by omega) (Or.inl hneg)).mono ?_
          rintro e w2 ⟨rfl, rfl⟩
          go_wp2
          exact ⟨⟨k + 1, V, by simp, by omega, HBA.out⟩, by simp [intOf]; omega⟩
        · by_cases hbig : (n : Int) ≤ who
          · have g5 : decide (who < (n : Int)) = false := decide_eq_false (by omega)
            have g55 : decide (0 ≤ who) = true := decide_eq_true (by omega)
            go_wp2_with fail
            refine (ban_out (by omega) (Or.inr hbig)).mono ?_
            rintro e w2 ⟨rfl, rfl⟩
            go_wp2_with fail
            refine (get_out (by omega) (Or.inr hbig)).mono ?_
            rintro e w2 ⟨rfl, rfl⟩
            go_wp2
            exact ⟨⟨k + 1, V, by simp, by omega, HBA.out⟩, by simp [intOf]; omega⟩
          · obtain ⟨i, hi⟩ : ∃ i : Nat, (i : Int) = who := ⟨who.toNat, by omega⟩
            subst hi
            have hin : i < n := by omega
            have hmx1 : max 0 (i : Int) = i := by omega
            have hmx2 : max 1 (n : Int) = n := by omega
            have hmod : (i : Int) % (n : Int) = i := Int.emod_eq_of_lt (by omega) (by omega)
            have hmod2 : Int.tmod (i : Int) (n : Int) = i := by rw [Int.tmod_eq_emod_of_nonneg (by omega)]; exact hmod
            have hmn : min (i : Int) ((n : Int) - 1) = i := by omega
            have g5 : decide ((i : Int) < (n : Int)) = true := decide_eq_true (by omega)
            have g6 : decide (i < n) = true := decide_eq_true hin
            obtain ⟨c0, c1, c2, c3⟩ := HBA.out.2.1.cells hin
            have f0 := HBA.out.2.1.frozen (i * 4)
            have f1 := HBA.out.2.1.frozen (i * 4 + 1)
            have f2 := HBA.out.2.1.frozen (i * 4 + 2)
            have f3 := HBA.out.2.1.frozen (i * 4 + 3)
            obtain ⟨x, hx⟩ : ∃ x, x = V i := ⟨_, rfl⟩
            rw [← hx] at c0 c1 c2 c3
            obtain ⟨xh, xe, xr, xb⟩ := x
            simp only at c0 c1 c2 c3
            cases xh with
            | true =>
              cases xb with
              | true =>
                have HX := Lib.hid hx
                clear hx
                go_wp2_with fail
                refine (ban_no HBA.out.1 (by omega) hin (by rw [← HX.out])).mono ?_
                rintro e w2 ⟨rfl, rfl⟩
                generalize World.alloc wa _ = wb at *
                go_wp2_with fail
                have hB3 := HBA.out.banned hin (by rw [← HX.out])
                generalize World.setCell _ _ _ = w3 at *
                have HB3 := Lib.hid hB3
                obtain ⟨d0, d1, d2, d3⟩ := hB3.2.1.cells hin
                rw [← HX.out] at d0 d1 d2 d3
                simp only at d0 d1 d2 d3
                clear hB3 c0 c1 c2 c3 f0 f1 f2 f3
                refine (get_in HB3.out.1 (by omega) hin).mono ?_
                rintro e w4 ⟨rfl, rfl⟩
                rw [← HX.out]
                simp only [Bool.not_true, Bool.not_false, Bool.and_true, Bool.and_false, Bool.false_eq_true, if_false, if_true]
                go_wp2
                exact ⟨⟨k + 1, V, by simp, by omega, HB3.out⟩, by simp [intOf]; omega⟩
              | false =>
                have HX := Lib.hid hx
                clear hx
                go_wp2_with fail
                refine (ban_yes HBA.out.1 (by omega) hin (by rw [← HX.out])).mono ?_
                rintro e w2 ⟨rfl, hv2, hg2⟩
                have hw2 := HBA.out.2.1.kept hg2 (fun e => HBA.out.2.2.1 (Option.some.inj e))
                obtain ⟨e0, e1, e2, e3⟩ := hw2.cells hin
                rw [← HX.out] at e0 e1 e2 e3
                simp only at e0 e1 e2 e3
                have k3 := hw2.frozen (i * 4 + 3)
                have hB3 := HBA.out.ban hin hv2 hg2
                have HB2 := Lib.hid hB3
                clear hv2 hg2 hw2 hB3 c0 c1 c2 c3 f0 f1 f2 f3
                go_wp2_with fail
                have hB3 := HB2.out
                generalize World.setCell _ _ _ = w3 at *
                have HB3 := Lib.hid hB3
                obtain ⟨d0, d1, d2, d3⟩ := hB3.2.1.cells hin
                have hvs : vset V i ⟨(V i).h, (V i).e, (V i).r, true⟩ i = ⟨true, xe, xr, true⟩ := by simp [vset, ← HX.out]
                rw [hvs] at d0 d1 d2 d3
                simp only at d0 d1 d2 d3
                have HVS := Lib.hid hvs
                clear hB3 HB2 e0 e1 e2 e3 k3 hvs
                refine (get_in HB3.out.1 (by omega) hin).mono ?_
                rintro e w4 ⟨rfl, rfl⟩
                rw [HVS.out]
                simp only [Bool.not_true, Bool.not_false, Bool.and_true, Bool.and_false, Bool.false_eq_true, if_false, if_true]
                go_wp2
                exact ⟨⟨k + 1, _, by simp, by omega, HB3.out⟩, by simp [intOf]; omega⟩
            | false =>
              cases xb with
              | true =>
                have HX := Lib.hid hx
                clear hx
                go_wp2_with fail
                refine (ban_no HBA.out.1 (by omega) hin (by rw [← HX.out])).mono ?_
                rintro e w2 ⟨rfl, rfl⟩
                generalize World.alloc wa _ = wb at *
                go_wp2_with fail
                have hB3 := HBA.out.banned hin (by rw [← HX.out])
                generalize World.setCell _ _ _ = w3 at *
                have HB3 := Lib.hid hB3
                obtain ⟨d0, d1, d2, d3⟩ := hB3.2.1.cells hin
                rw [← HX.out] at d0 d1 d2 d3
                simp only at d0 d1 d2 d3
                clear hB3 c0 c1 c2 c3 f0 f1 f2 f3
                refine (get_in HB3.out.1 (by omega) hin).mono ?_
                rintro e w4 ⟨rfl, rfl⟩
                rw [← HX.out]
                simp only [Bool.not_true, Bool.not_false, Bool.and_true, Bool.and_false, Bool.false_eq_true, if_false, if_true]
                go_wp2
                exact ⟨⟨k + 1, V, by simp, by omega, HB3.out⟩, by simp [intOf]; omega⟩
              | false =>
                have HX := Lib.hid hx
                clear hx
                go_wp2_with fail
                refine (ban_yes HBA.out.1 (by omega) hin (by rw [← HX.out])).mono ?_
                rintro e w2 ⟨rfl, hv2, hg2⟩
                have hw2 := HBA.out.2.1.kept hg2 (fun e => HBA.out.2.2.1 (Option.some.inj e))
                obtain ⟨e0, e1, e2, e3⟩ := hw2.cells hin
                rw [← HX.out] at e0 e1 e2 e3
                simp only at e0 e1 e2 e3
                have k3 := hw2.frozen (i * 4 + 3)
                have hB3 := HBA.out.ban hin hv2 hg2
                have HB2 := Lib.hid hB3
                clear hv2 hg2 hw2 hB3 c0 c1 c2 c3 f0 f1 f2 f3
                go_wp2_with fail
                have hB3 := HB2.out
                generalize World.setCell _ _ _ = w3 at *
                have HB3 := Lib.hid hB3
                obtain ⟨d0, d1, d2, d3⟩ := hB3.2.1.cells hin
                have hvs : vset V i ⟨(V i).h, (V i).e, (V i).r, true⟩ i = ⟨false, xe, xr, true⟩ := by simp [vset, ← HX.out]
                rw [hvs] at d0 d1 d2 d3
                simp only at d0 d1 d2 d3
                have HVS := Lib.hid hvs
                clear hB3 HB2 e0 e1 e2 e3 k3 hvs
                refine (get_in HB3.out.1 (by omega) hin).mono ?_
                rintro e w4 ⟨rfl, rfl⟩
                rw [HVS.out]
                simp only [Bool.not_true, Bool.not_false, Bool.and_true, Bool.and_false, Bool.false_eq_true, if_false, if_true]
                go_wp2
                exact ⟨⟨k + 1, _, by simp, by omega, HB3.out⟩, by simp [intOf]; omega⟩
      · have g4 : (op % 5 == 4) = false := beq_eq_false_iff_ne.2 h4
        clear h4
        by_cases hneg : who < 0
        · have g5 : decide (0 ≤ who) = false := decide_eq_false (by omega)
          have hbx : (wa.alloc (Obj.cells #[Value.int .u8 op, Value.int .i8 who, Value.int .i8 when_, Value.int .u64 root] 30)).heap[wa.heap.size]? = some (.cells #[Value.int .u8 op, Value.int .i8 who, Value.int .i8 when_, Value.int .u64 root] 30 (0, 0)) := (MapKept.heap_alloc wa _).1
          have HBX := Lib.hid hbx
          clear hbx
          go_wp2
          go_quiet (fail)
          have HBD := Lib.hid (HBA.out.kept (drewN_grown _ nq))
          have hbd : (World.drewN (wa.alloc (Obj.cells #[Value.int .u8 op, Value.int .i8 who, Value.int .i8 when_, Value.int .u64 root] 30)) nq).heap[wa.heap.size]? = some (.cells #[Value.int .u8 op, Value.int .i8 who, Value.int .i8 when_, Value.int .u64 root] 30 (0, 0)) := HBX.out
          generalize World.drewN (wa.alloc (Obj.cells #[Value.int .u8 op, Value.int .i8 who, Value.int .i8 when_, Value.int .u64 root] 30)) nq = wd at *
          have b2 : wd.cell? ⟨wa.heap.size, 2, none⟩ = some (.int .i8 when_) := cel hbd 2
          have b3 : wd.cell? ⟨wa.heap.size, 3, none⟩ = some (.int .u64 root) := cel hbd 3
          have HBDX := Lib.hid hbd
          clear hbd
          go_wp2_with fail
          refine (take_out (by omega) (Or.inl hneg) _ _).mono ?_
          rintro e w2 ⟨rfl, rfl⟩
          go_wp2_with fail
          refine (get_out (by omega) (Or.inl hneg)).mono ?_
          rintro e w2 ⟨rfl, rfl⟩
          go_wp2
          exact ⟨⟨k + 1, V, by simp, by omega, HBD.out⟩, by simp [intOf]; omega⟩
        · by_cases hbig : (n : Int) ≤ who
          · have g5 : decide (who < (n : Int)) = false := decide_eq_false (by omega)
            have g55 : decide (0 ≤ who) = true := decide_eq_true (by omega)
            have hbx : (wa.alloc (Obj.cells #[Value.int .u8 op, Value.int .i8 who, Value.int .i8 when_, Value.int .u64 root] 30)).heap[wa.heap.size]? = some (.cells #[Value.int .u8 op, Value.int .i8 who, Value.int .i8 when_, Value.int .u64 root] 30 (0, 0)) := (MapKept.heap_alloc wa _).1
            have HBX := Lib.hid hbx
            clear hbx
            go_wp2
            go_quiet (fail)
            have HBD := Lib.hid (HBA.out.kept (drewN_grown _ nq))
            have hbd : (World.drewN (wa.alloc (Obj.cells #[Value.int .u8 op, Value.int .i8 who, Value.int .i8 when_, Value.int .u64 root] 30)) nq).heap[wa.heap.size]? = some (.cells #[Value.int .u8 op, Value.int .i8 who, Value.int .i8 when_, Value.int .u64 root] 30 (0, 0)) := HBX.out
            generalize World.drewN (wa.alloc (Obj.cells #[Value.int .u8 op, Value.int .i8 who, Value.int .i8 when_, Value.int .u64 root] 30)) nq = wd at *
            have b2 : wd.cell? ⟨wa.heap.size, 2, none⟩ = some (.int .i8 when_) := cel hbd 2
            have b3 : wd.cell? ⟨wa.heap.size, 3, none⟩ = some (.int .u64 root) := cel hbd 3
            have HBDX := Lib.hid hbd
            clear hbd
            go_wp2_with fail
            refine (take_out (by omega) (Or.inr hbig) _ _).mono ?_
            rintro e w2 ⟨rfl, rfl⟩
            go_wp2_with fail
            refine (get_out (by omega) (Or.inr hbig)).mono ?_
            rintro e w2 ⟨rfl, rfl⟩
            go_wp2
            exact ⟨⟨k + 1, V, by simp, by omega, HBD.out⟩, by simp [intOf]; omega⟩
          · obtain ⟨i, hi⟩ : ∃ i : Nat, (i : Int) = who := ⟨who.toNat, by omega⟩
            subst hi
            have hin : i < n := by omega
            have hmx1 : max 0 (i : Int) = i := by omega
            have hmx2 : max 1 (n : Int) = n := by omega
            have hmod : (i : Int) % (n : Int) = i := Int.emod_eq_of_lt (by omega) (by omega)
            have hmod2 : Int.tmod (i : Int) (n : Int) = i := by rw [Int.tmod_eq_emod_of_nonneg (by omega)]; exact hmod
            have hmn : min (i : Int) ((n : Int) - 1) = i := by omega
            have g5 : decide ((i : Int) < (n : Int)) = true := decide_eq_true (by omega)
            have g6 : decide (i < n) = true := decide_eq_true hin
            obtain ⟨c0, c1, c2, c3⟩ := HBA.out.2.1.cells hin
            have f0 := HBA.out.2.1.frozen (i * 4)
            have f1 := HBA.out.2.1.frozen (i * 4 + 1)
            have f2 := HBA.out.2.1.frozen (i * 4 + 2)
            have f3 := HBA.out.2.1.frozen (i * 4 + 3)
            obtain ⟨x, hx⟩ : ∃ x, x = V i := ⟨_, rfl⟩
            rw [← hx] at c0 c1 c2 c3
            obtain ⟨xh, xe, xr, xb⟩ := x
            simp only at c0 c1 c2 c3
            cases xh with
            | true =>
              cases xb with
              | true =>
                have HX := Lib.hid hx
                clear hx
                have hbx : (wa.alloc (Obj.cells #[Value.int .u8 op, Value.int .i8 (i : Int), Value.int .i8 when_, Value.int .u64 root] 30)).heap[wa.heap.size]? = some (.cells #[Value.int .u8 op, Value.int .i8 (i : Int), Value.int .i8 when_, Value.int .u64 root] 30 (0, 0)) := (MapKept.heap_alloc wa _).1
                have HBX := Lib.hid hbx
                clear hbx
                go_wp2
                go_quiet (fail)
                have HBD := Lib.hid (HBA.out.kept (drewN_grown _ nq))
                have hbd : (World.drewN (wa.alloc (Obj.cells #[Value.int .u8 op, Value.int .i8 (i : Int), Value.int .i8 when_, Value.int .u64 root] 30)) nq).heap[wa.heap.size]? = some (.cells #[Value.int .u8 op, Value.int .i8 (i : Int), Value.int .i8 when_, Value.int .u64 root] 30 (0, 0)) := HBX.out
                generalize World.drewN (wa.alloc (Obj.cells #[Value.int .u8 op, Value.int .i8 (i : Int), Value.int .i8 when_, Value.int .u64 root] 30)) nq = wd at *
                have b2 : wd.cell? ⟨wa.heap.size, 2, none⟩ = some (.int .i8 when_) := cel hbd 2
                have b3 : wd.cell? ⟨wa.heap.size, 3, none⟩ = some (.int .u64 root) := cel hbd 3
                have HBDX := Lib.hid hbd
                clear hbd
                clear c0 c1 c2 c3 f0 f1 f2 f3
                obtain ⟨c0, c1, c2, c3⟩ := HBD.out.2.1.cells hin
                rw [← HX.out] at c0 c1 c2 c3
                simp only at c0 c1 c2 c3
                go_wp2_with fail
                refine (take_no HBD.out.1 (by omega) hin _ _ (by rw [← HX.out]; exact Or.inl rfl)).mono ?_
                rintro e w2 ⟨rfl, rfl⟩
                go_wp2_with fail
                refine (get_in HBD.out.1 (by omega) hin).mono ?_
                rintro e w4 ⟨rfl, rfl⟩
                rw [← HX.out]
                simp only [Bool.not_true, Bool.not_false, Bool.and_true, Bool.and_false, Bool.false_eq_true, if_false, if_true]
                go_wp2
                exact ⟨⟨k + 1, V, by simp, by omega, HBD.out⟩, by simp [intOf]; omega⟩
              | false =>
                by_cases hlater : xe < when_
                · have g8 : decide (xe < when_) = true := decide_eq_true hlater
                  have HX := Lib.hid hx
                  clear hx
                  have hbx : (wa.alloc (Obj.cells #[Value.int .u8 op, Value.int .i8 (i : Int), Value.int .i8 when_, Value.int .u64 root] 30)).heap[wa.heap.size]? = some (.cells #[Value.int .u8 op, Value.int .i8 (i : Int), Value.int .i8 when_, Value.int .u64 root] 30 (0, 0)) := (MapKept.heap_alloc wa _).1
                  have HBX := Lib.hid hbx
                  clear hbx
                  go_wp2
                  go_quiet (fail)
                  have HBD := Lib.hid (HBA.out.kept (drewN_grown _ nq))
                  have hbd : (World.drewN (wa.alloc (Obj.cells #[Value.int .u8 op, Value.int .i8 (i : Int), Value.int .i8 when_, Value.int .u64 root] 30)) nq).heap[wa.heap.size]? = some (.cells #[Value.int .u8 op, Value.int .i8 (i : Int), Value.int .i8 when_, Value.int .u64 root] 30 (0, 0)) := HBX.out
                  generalize World.drewN (wa.alloc (Obj.cells #[Value.int .u8 op, Value.int .i8 (i : Int), Value.int .i8 when_, Value.int .u64 root] 30)) nq = wd at *
                  have b2 : wd.cell? ⟨wa.heap.size, 2, none⟩ = some (.int .i8 when_) := cel hbd 2
                  have b3 : wd.cell? ⟨wa.heap.size, 3, none⟩ = some (.int .u64 root) := cel hbd 3
                  have HBDX := Lib.hid hbd
                  clear hbd
                  clear c0 c1 c2 c3 f0 f1 f2 f3
                  obtain ⟨c0, c1, c2, c3⟩ := HBD.out.2.1.cells hin
                  rw [← HX.out] at c0 c1 c2 c3
                  simp only at c0 c1 c2 c3
                  go_wp2_with fail
                  refine (take_yes HBD.out.1 (by omega) hin _ _ (by rw [← HX.out]) (by rw [← HX.out]; exact fun _ => hlater)).mono ?_
                  rintro e w2 ⟨rfl, hv2, hg2⟩
                  have hw2 := HBD.out.2.1.kept hg2 (fun e => HBD.out.2.2.1 (Option.some.inj e))
                  obtain ⟨e0, e1, e2, e3⟩ := hw2.cells hin
                  have k0 := hw2.frozen (i * 4)
                  have k1 := hw2.frozen (i * 4 + 1)
                  have k2 := hw2.frozen (i * 4 + 2)
                  have k3 := hw2.frozen (i * 4 + 3)
                  have hneq : wa.heap.size ≠ gv := by omega
                  have bb2 := hg2.cell b2 (fun e => hneq (Option.some.inj e))
                  have bb3 := hg2.cell b3 (fun e => hneq (Option.some.inj e))
                  have HB2 := Lib.hid (HBD.out.put hin hv2 hg2)
                  clear hv2 hg2 hw2 c0 c1 c2 c3 b2 b3
                  go_wp2_with fail
                  have hB3 := HB2.out
                  generalize World.setCell (World.setCell (World.setCell (World.setCell _ _ _) _ _) _ _) _ _ = w3 at *
                  have HB3 := Lib.hid hB3
                  obtain ⟨d0, d1, d2, d3⟩ := hB3.2.1.cells hin
                  have hvs : vset V i ⟨true, when_, root, false⟩ i = ⟨true, when_, root, false⟩ := by simp [vset]
                  rw [hvs] at d0 d1 d2 d3
                  simp only at d0 d1 d2 d3
                  have HVS := Lib.hid hvs
                  clear hB3 HB2 e0 e1 e2 e3 k0 k1 k2 k3 hvs
                  refine (get_in HB3.out.1 (by omega) hin).mono ?_
                  rintro e w4 ⟨rfl, rfl⟩
                  rw [HVS.out]
                  simp only [Bool.not_true, Bool.not_false, Bool.and_true, Bool.and_false, Bool.false_eq_true, if_false, if_true]
                  go_wp2
                  exact ⟨⟨k + 1, _, by simp, by omega, HB3.out⟩, by simp [intOf]; omega⟩
                · have g8 : decide (xe < when_) = false := decide_eq_false hlater
                  have HX := Lib.hid hx
                  clear hx
                  have hbx : (wa.alloc (Obj.cells #[Value.int .u8 op, Value.int .i8 (i : Int), Value.int .i8 when_, Value.int .u64 root] 30)).heap[wa.heap.size]? = some (.cells #[Value.int .u8 op, Value.int .i8 (i : Int), Value.int .i8 when_, Value.int .u64 root] 30 (0, 0)) := (MapKept.heap_alloc wa _).1
                  have HBX := Lib.hid hbx
                  clear hbx
                  go_wp2
                  go_quiet (fail)
                  have HBD := Lib.hid (HBA.out.kept (drewN_grown _ nq))
                  have hbd : (World.drewN (wa.alloc (Obj.cells #[Value.int .u8 op, Value.int .i8 (i : Int), Value.int .i8 when_, Value.int .u64 root] 30)) nq).heap[wa.heap.size]? = some (.cells #[Value.int .u8 op, Value.int .i8 (i : Int), Value.int .i8 when_, Value.int .u64 root] 30 (0, 0)) := HBX.out
                  generalize World.drewN (wa.alloc (Obj.cells #[Value.int .u8 op, Value.int .i8 (i : Int), Value.int .i8 when_, Value.int .u64 root] 30)) nq = wd at *
                  have b2 : wd.cell? ⟨wa.heap.size, 2, none⟩ = some (.int .i8 when_) := cel hbd 2
                  have b3 : wd.cell? ⟨wa.heap.size, 3, none⟩ = some (.int .u64 root) := cel hbd 3
                  have HBDX := Lib.hid hbd
                  clear hbd
                  clear c0 c1 c2 c3 f0 f1 f2 f3
                  obtain ⟨c0, c1, c2, c3⟩ := HBD.out.2.1.cells hin
                  rw [← HX.out] at c0 c1 c2 c3
                  simp only at c0 c1 c2 c3
                  go_wp2_with fail
                  refine (take_no HBD.out.1 (by omega) hin _ _ (by rw [← HX.out]; exact Or.inr ⟨rfl, by omega⟩)).mono ?_
                  rintro e w2 ⟨rfl, rfl⟩
                  go_wp2_with fail
                  refine (get_in HBD.out.1 (by omega) hin).mono ?_
                  rintro e w4 ⟨rfl, rfl⟩
                  rw [← HX.out]
                  simp only [Bool.not_true, Bool.not_false, Bool.and_true, Bool.and_false, Bool.false_eq_true, if_false, if_true]
                  go_wp2
                  exact ⟨⟨k + 1, V, by simp, by omega, HBD.out⟩, by simp [intOf]; omega⟩
            | false =>
              cases xb with
              | true =>
                have HX := Lib.hid hx
                clear hx
                have hbx : (wa.alloc (Obj.cells #[Value.int .u8 op, Value.int .i8 (i : Int), Value.int .i8 when_, Value.int .u64 root] 30)).heap[wa.heap.size]? = some (.cells #[Value.int .u8 op, Value.int .i8 (i : Int), Value.int .i8 when_, Value.int .u64 root] 30 (0, 0)) := (MapKept.heap_alloc wa _).1
                have HBX := Lib.hid hbx
                clear hbx
                go_wp2
                go_quiet (fail)
                have HBD := Lib.hid (HBA.out.kept (drewN_grown _ nq))
                have hbd : (World.drewN (wa.alloc (Obj.cells #[Value.int .u8 op, Value.int .i8 (i : Int), Value.int .i8 when_, Value.int .u64 root] 30)) nq).heap[wa.heap.size]? = some (.cells #[Value.int .u8 op, Value.int .i8 (i : Int), Value.int .i8 when_, Value.int .u64 root] 30 (0, 0)) := HBX.out
                generalize World.drewN (wa.alloc (Obj.cells #[Value.int .u8 op, Value.int .i8 (i : Int), Value.int .i8 when_, Value.int .u64 root] 30)) nq = wd at *
                have b2 : wd.cell? ⟨wa.heap.size, 2, none⟩ = some (.int .i8 when_) := cel hbd 2
                have b3 : wd.cell? ⟨wa.heap.size, 3, none⟩ = some (.int .u64 root) := cel hbd 3
                have HBDX := Lib.hid hbd
                clear hbd
                clear c0 c1 c2 c3 f0 f1 f2 f3
                obtain ⟨c0, c1, c2, c3⟩ := HBD.out.2.1.cells hin
                rw [← HX.out] at c0 c1 c2 c3
                simp only at c0 c1 c2 c3
                go_wp2_with fail
                refine (take_no HBD.out.1 (by omega) hin _ _ (by rw [← HX.out]; exact Or.inl rfl)).mono ?_
                rintro e w2 ⟨rfl, rfl⟩
                go_wp2_with fail
                refine (get_in HBD.out.1 (by omega) hin).mono ?_
                rintro e w4 ⟨rfl, rfl⟩
                rw [← HX.out]
                simp only [Bool.not_true, Bool.not_false, Bool.and_true, Bool.and_false, Bool.false_eq_true, if_false, if_true]
                go_wp2
                exact ⟨⟨k + 1, V, by simp, by omega, HBD.out⟩, by simp [intOf]; omega⟩
              | false =>
                have HX := Lib.hid hx
                clear hx
                have hbx : (wa.alloc (Obj.cells #[Value.int .u8 op, Value.int .i8 (i : Int), Value.int .i8 when_, Value.int .u64 root] 30)).heap[wa.heap.size]? = some (.cells #[Value.int .u8 op, Value.int .i8 (i : Int), Value.int .i8 when_, Value.int .u64 root] 30 (0, 0)) := (MapKept.heap_alloc wa _).1
                have HBX := Lib.hid hbx
                clear hbx
                go_wp2
                go_quiet (fail)
                have HBD := Lib.hid (HBA.out.kept (drewN_grown _ nq))
                have hbd : (World.drewN (wa.alloc (Obj.cells #[Value.int .u8 op, Value.int .i8 (i : Int), Value.int .i8 when_, Value.int .u64 root] 30)) nq).heap[wa.heap.size]? = some (.cells #[Value.int .u8 op, Value.int .i8 (i : Int), Value.int .i8 when_, Value.int .u64 root] 30 (0, 0)) := HBX.out
                generalize World.drewN (wa.alloc (Obj.cells #[Value.int .u8 op, Value.int .i8 (i : Int), Value.int .i8 when_, Value.int .u64 root] 30)) nq = wd at *
                have b2 : wd.cell? ⟨wa.heap.size, 2, none⟩ = some (.int .i8 when_) := cel hbd 2
                have b3 : wd.cell? ⟨wa.heap.size, 3, none⟩ = some (.int .u64 root) := cel hbd 3
                have HBDX := Lib.hid hbd
                clear hbd
                clear c0 c1 c2 c3 f0 f1 f2 f3
                obtain ⟨c0, c1, c2, c3⟩ := HBD.out.2.1.cells hin
                rw [← HX.out] at c0 c1 c2 c3
                simp only at c0 c1 c2 c3
                go_wp2_with fail
                refine (take_yes HBD.out.1 (by omega) hin _ _ (by rw [← HX.out]) (by rw [← HX.out]; exact fun h => by cases h)).mono ?_
                rintro e w2 ⟨rfl, hv2, hg2⟩
                have hw2 := HBD.out.2.1.kept hg2 (fun e => HBD.out.2.2.1 (Option.some.inj e))
                obtain ⟨e0, e1, e2, e3⟩ := hw2.cells hin
                have k0 := hw2.frozen (i * 4)
                have k1 := hw2.frozen (i * 4 + 1)
                have k2 := hw2.frozen (i * 4 + 2)
                have k3 := hw2.frozen (i * 4 + 3)
                have hneq : wa.heap.size ≠ gv := by omega
                have bb2 := hg2.cell b2 (fun e => hneq (Option.some.inj e))
                have bb3 := hg2.cell b3 (fun e => hneq (Option.some.inj e))
                have HB2 := Lib.hid (HBD.out.put hin hv2 hg2)
                clear hv2 hg2 hw2 c0 c1 c2 c3 b2 b3
                go_wp2_with fail
                have hB3 := HB2.out
                generalize World.setCell (World.setCell (World.setCell (World.setCell _ _ _) _ _) _ _) _ _ = w3 at *
                have HB3 := Lib.hid hB3
                obtain ⟨d0, d1, d2, d3⟩ := hB3.2.1.cells hin
                have hvs : vset V i ⟨true, when_, root, false⟩ i = ⟨true, when_, root, false⟩ := by simp [vset]
                rw [hvs] at d0 d1 d2 d3
                simp only at d0 d1 d2 d3
                have HVS := Lib.hid hvs
                clear hB3 HB2 e0 e1 e2 e3 k0 k1 k2 k3 hvs
                refine (get_in HB3.out.1 (by omega) hin).mono ?_
                rintro e w4 ⟨rfl, rfl⟩
                rw [HVS.out]
                simp only [Bool.not_true, Bool.not_false, Bool.and_true, Bool.and_false, Bool.false_eq_true, if_false, if_true]
                go_wp2
                exact ⟨⟨k + 1, _, by simp, by omega, HB3.out⟩, by simp [intOf]; omega⟩
    · have HBB := Lib.hid hB
      clear hB hm
      go_wp2
      go_loopw [174] (fun v174 wr => ∃ j : Nat, v174 = .int .i64 (j : Int) ∧ j ≤ n ∧ Both w wr gv gw n V) (fun v174 _ => n - (intOf v174).toNat)
      case atStart => exact ⟨0, rfl, by omega, HBB.out⟩
      case round =>
        obtain ⟨j, rfl, hj, hB⟩ := hrel
        by_cases hjn : j < n
        · obtain ⟨c0, c1, c2, c3⟩ := hB.2.1.cells hjn
          obtain ⟨d0, d1, d2, d3⟩ := hB.1.cells hjn
          have HB3 := Lib.hid hB
          have g6 : decide (j < n) = true := decide_eq_true hjn
          have g7 : ((j : Int) < (n : Int)) = True := eq_true (by omega)
          have g8 : (0 ≤ (j : Int)) = True := eq_true (by omega)
          clear hB
          go_wp2
          go_quiet (fail)
          go_wp2
          exact ⟨⟨j + 1, by simp, by omega, HB3.out.kept (drewN_grown _ nq)⟩, by simp [intOf]; omega⟩
        · have HB3 := Lib.hid hB
          clear hB
          go_wp2
          go_ret
          exact ⟨by simp, HB3.out.2.2.2.2.2⟩
end Go.Proofs.Ytadncnpgekkjbaa.Script
