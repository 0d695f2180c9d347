/- Contracts of replay.Of at the two kinds of engine that awake asks. -/
import Derived.Test.YtndfpmboanohcaaGreatDoorBstToAof
import Derived.Test.YtndfpmboanohcaaGreatDoorCan
namespace Go.Proofs.YtndfpmboanohcaaGreatDoor
set_option maxRecDepth 100000
open Go.RowKit Go.Maps SkipPure
section
variable {w : World} {bs : List Int} {S B : Int} {ad : Option Addr} {c : Nat}
set_option maxHeartbeats 2000000 in
theorem rof_array (hb : Ints .u64 w ad bs) (hm : MayBe bs S B) :
  Calls Tryz.prog 15 #[.int .i64 1, cfgV ad bs.length c S B] w fun e w' => ∃ I J, e = .returned (.tuple #[.iface 105 (.pointer (some ⟨J.q, 0, none⟩)), .pointer (some ⟨I.p, 0, none⟩), .nilIface]) ∧ StoreAt w' I (st0 bs S B) ∧ ArrAt w' J I.p arr0 ∧ I.ex = AOwn J ∧ w.grownBy w' none ∧
   (∀ i, Mut I i → w.heap.size ≤ i) ∧ (∀ i, AOwn J i → w.heap.size ≤ i) := by
 have HB := lh hb
 have HM := lh hm
 clear hb hm
 unfold cfgV
 go_enter Tryz.func15, Tryz.ntmps15
 go_upto_region 1 with (fail)
 refine nmC1 ?_
 intro W b0 hz hg
 obtain ⟨q, hq_q⟩ : ∃ q, q = w.heap.size := ⟨_, rfl⟩
 rw [← hq_q] at b0 hz ⊢
 have HQ_q := lh hq_q
 clear hq_q
 have HQ := lh b0
 have HG := lh hg
 clear b0 hg
 replace HB := lh (Ints.kept HB.out HG.out)
 obtain ⟨c0, c1, c2⟩ := HQ.out.c3
 go_wp2_with fail
 refine (aof_calls HB.out HM.out).mono ?_
 rintro e w1 ⟨I, J, rfl, hst, ha, hex, hg, hm1, hm2⟩
 have hwW := HG.out.size
 replace HG := lh (g2 HG.out hg)
 have h1 : ∀ i, Mut I i → w.heap.size ≤ i := fun i hi => Nat.le_trans hwW (hm1 i hi)
 have h2 : ∀ i, AOwn J i → w.heap.size ≤ i := fun i hi => Nat.le_trans hwW (hm2 i hi)
 clear hg c0 c1 c2 HB HQ hwW hm1 hm2
 have HH := lh hst
 have HA := lh ha
 have HEX := lh hex
 have HM1 := lh h1
 have HM2 := lh h2
 clear hst ha hex h1 h2
 go_wp2_with fail
 have a0 : w1.cell? ⟨J.q, 0, none⟩ = some (.pointer (some ⟨I.p, 0, none⟩)) := HA.out.blk.at 0
 go_quiet (fail)
 have hgd : w1.grownBy (w1.drewN nq) none := drewN_grown w1 nq
 replace HH := lh (HH.out.g hgd)
 replace HA := lh (HA.out.kept0 hgd)
 replace HG := lh (g2 HG.out hgd)
 clear hgd a0
 generalize w1.drewN nq = w2 at HH HA HG ⊢
 go_wp2
 go_ret3
 exact ⟨I, J, rfl, HH.out, HA.out, HEX.out, HG.out, HM1.out, HM2.out⟩
set_option maxHeartbeats 2000000 in
theorem rof_bucket (hb : Ints .u64 w ad bs) (hm : MayBe bs S B) :
  Calls Tryz.prog 15 #[.int .i64 3, cfgV ad bs.length c S B] w fun e w' => ∃ I J, e = .returned (.tuple #[.iface 117 (.pointer (some ⟨J.q, 0, none⟩)), .pointer (some ⟨I.p, 0, none⟩), .nilIface]) ∧ StoreAt w' I (st0 bs S B) ∧ BktAt w' J I.p bkt0 ∧ I.ex = BOwn J ∧ w.grownBy w' none ∧
   (∀ i, Mut I i → w.heap.size ≤ i) ∧ (∀ i, BOwn J i → w.heap.size ≤ i) := by
 have HB := lh hb
 have HM := lh hm
 clear hb hm
 unfold cfgV
 go_enter Tryz.func15, Tryz.ntmps15
 go_upto_region 1 with (fail)
 refine nmC1 ?_
 intro W b0 hz hg
 obtain ⟨q, hq_q⟩ : ∃ q, q = w.heap.size := ⟨_, rfl⟩
 rw [← hq_q] at b0 hz ⊢
 have HQ_q := lh hq_q
 clear hq_q
 have HQ := lh b0
 have HG := lh hg
 clear b0 hg
 replace HB := lh (Ints.kept HB.out HG.out)
 obtain ⟨c0, c1, c2⟩ := HQ.out.c3
 go_wp2_with fail
 refine (bof_calls HB.out HM.out).mono ?_
 rintro e w1 ⟨I, J, rfl, hst, ha, hex, hg, hm1, hm2⟩
 have hwW := HG.out.size
 replace HG := lh (g2 HG.out hg)
 have h1 : ∀ i, Mut I i → w.heap.size ≤ i := fun i hi => Nat.le_trans hwW (hm1 i hi)
 have h2 : ∀ i, BOwn J i → w.heap.size ≤ i := fun i hi => Nat.le_trans hwW (hm2 i hi)
 clear hg c0 c1 c2 HB HQ hwW hm1 hm2
 have HH := lh hst
 have HA := lh ha
 have HEX := lh hex
 have HM1 := lh h1
 have HM2 := lh h2
 clear hst ha hex h1 h2
 go_wp2_with fail
 have a0 : w1.cell? ⟨J.q, 0, none⟩ = some (.pointer (some ⟨I.p, 0, none⟩)) := HA.out.blk.at 0
 go_quiet (fail)
 have hgd : w1.grownBy (w1.drewN nq) none := drewN_grown w1 nq
 replace HH := lh (HH.out.g hgd)
 replace HA := lh (HA.out.kept0 hgd)
 replace HG := lh (g2 HG.out hgd)
 clear hgd a0
 generalize w1.drewN nq = w2 at HH HA HG ⊢
 go_wp2
 go_ret3
 exact ⟨I, J, rfl, HH.out, HA.out, HEX.out, HG.out, HM1.out, HM2.out⟩
end
def sgA : St := tickF (st0 [5] 4 0) 2
def sgB : St := addS sgA 2 1 2 0 (led0 1 1)
theorem may1 : MayBe [5] 4 0 :=
 ⟨by simp, by simp, by omega, by omega, by omega, by omega, fun i hi => by
  have e : i = 0 := by simp at hi; omega
  subst e
  simp⟩
theorem sgA_eq : sgA = { st0 [5] 4 0 with slot := 2, boosted := 0 } := by
 have e : tickE (st0 [5] 4 0) 2 = 0 := by unfold tickE st0; simp
 unfold sgA tickF
 rw [if_pos e]
def F1 : Int → Option (Int × Int × Int) := fun x => if x = 1 then some (1, 0, 0) else none
def F2 : Int → Option (Int × Int × Int) := fun x => if x = 2 then some (1, 2, 1) else if x = 1 then some (1, 0, 0) else none
theorem adv1 (T : Int → Option (Int × Int × Int)) : advF [5] 4 T 1 2 (led0 1 1) 2 = led0 1 1 := by
 unfold advF
 have e : endsF (eOf ((led0 1 1).ep * max 1 4) 4) (eOf 2 4) = [] := by decide
 rw [e]
 rfl
theorem sgB_eq : sgB = { sgA with n := 2, F := F2, L := ledSet sgA.L 2 (led0 1 1), boosted := 2 } := by
 unfold sgB addS
 rw [sgA_eq]
 have h1 : tset (st0 [5] 4 0).F 2 (1, 2, 0 + 1) = F2 := by funext x; unfold tset F2 st0; rfl
 simp only [h1]
 have h2 : (st0 [5] 4 0).bs = [5] := rfl
 have h3 : (st0 [5] 4 0).S = 4 := rfl
 have h4 : (st0 [5] 4 0).f = 1 := rfl
 rw [h2, h3, h4, adv1]
 rfl
theorem keysF1 {r : Int} (h : (F1 r).isSome = true) : r = 1 := by
 unfold F1 at h
 split at h
 ·assumption
 ·cases h
theorem keysF2 {r : Int} (h : (F2 r).isSome = true) : r = 1 ∨ r = 2 := by
 unfold F2 at h
 split at h
 ·right; assumption
 ·split at h
  ·left; assumption
  ·cases h
theorem wellF1 : WellT 1 F1 := by
 refine ⟨rfl, fun r x h hr => ?_, fun r x h => ?_, fun r x h => ?_, fun r x h => ?_⟩
 all_goals
  have hk := keysF1 (r := r) (by rw [h]; rfl)
  subst hk
 ·exact (hr rfl).elim
 ·unfold inU; omega
 ·cases h; simp
 ·cases h; simp
theorem wellF2 : WellT 1 F2 := by
 refine ⟨rfl, fun r x h hr => ?_, fun r x h => ?_, fun r x h => ?_, fun r x h => ?_⟩
 all_goals
  rcases keysF2 (r := r) (by rw [h]; rfl) with hk | hk
  all_goals subst hk
 ·exact (hr rfl).elim
 ·cases h; exact ⟨(1, 0, 0), rfl, by simp⟩
 ·unfold inU; omega
 ·unfold inU; omega
 ·cases h; simp
 ·cases h; simp
 ·cases h; simp
 ·cases h; simp
theorem ledBd0 : LedBd (led0 1 1) := ⟨⟨by simp [led0], by simp [led0], by simp [led0], by simp [led0], by simp [led0], by simp [led0], by simp [led0, inU], by simp [led0, inU], by simp [led0, inU]⟩, by simp [led0], by simp [led0]⟩
theorem wfA : StWf sgA := by
 rw [sgA_eq]
 refine ⟨may1, wellF1, by show 1 ≤ 1024; omega, ⟨[1], by show 1 ≤ 1; omega, fun k hk => by rw [keysF1 hk]; simp⟩, fun r => ?_, fun r x h => ?_, by show (0 : Int) ≤ 2; omega, by show (2 : Int) ≤ _; omega, by show inU 0; unfold inU; omega, by show (0 : Int) ≤ 0; omega, by show (0 : Int) ≤ _; omega, by show inU 1; unfold inU; omega,
  by show (0 : Int) ≤ 0; omega, by show (0 : Int) ≤ _; omega, by show inU 1; unfold inU; omega, fun i _ => by show inU 0 ∧ (0 : Int) ≤ 0 ∧ (0 : Int) ≤ _; unfold inU; omega⟩
 ·show (if r = 1 then some (led0 1 1) else none).isSome = (F1 r).isSome
  unfold F1
  split <;> rfl
 ·have h2 : (if r = 1 then some (led0 1 1) else none) = some x := h
  split at h2
  ·cases h2; exact ledBd0
  ·cases h2
theorem wfB : StWf sgB := by
 rw [sgB_eq, sgA_eq]
 refine ⟨may1, wellF2, by show 2 ≤ 1024; omega, ⟨[1, 2], by show 2 ≤ 2; omega, fun k hk => by rcases keysF2 hk with e | e <;> rw [e] <;> simp⟩, fun r => ?_, fun r x h => ?_, by show (0 : Int) ≤ 2; omega, by show (2 : Int) ≤ _; omega, by show inU 2; unfold inU; omega, by show (0 : Int) ≤ 0; omega, by show (0 : Int) ≤ _; omega, by show inU 1; unfold inU; omega,
  by show (0 : Int) ≤ 0; omega, by show (0 : Int) ≤ _; omega, by show inU 1; unfold inU; omega, fun i _ => by show inU 0 ∧ (0 : Int) ≤ 0 ∧ (0 : Int) ≤ _; unfold inU; omega⟩
 ·show (ledSet (fun x => if x = 1 then some (led0 1 1) else none) 2 (led0 1 1) r).isSome = (F2 r).isSome
  unfold ledSet F2
  by_cases e2 : r = 2
  ·simp [e2]
  ·by_cases e1 : r = 1
   ·simp [e1]
   ·simp [e1, e2]
 ·have h2 : ledSet (fun x => if x = 1 then some (led0 1 1) else none) 2 (led0 1 1) r = some x := h
  unfold ledSet at h2
  by_cases e2 : r = 2
  ·simp [e2] at h2; rw [← h2]; exact ledBd0
  ·by_cases e1 : r = 1
   ·simp [e1] at h2; rw [← h2]; exact ledBd0
   ·simp [e1, e2] at h2
theorem add1 : Addable sgA 2 1 2 1 0 0 (led0 1 1) := by
 rw [sgA_eq]
 refine ⟨by unfold inU; omega, by omega, by show (2 : Int) ≤ 2; omega, fun h => h, rfl, rfl, by omega, by show 1 < 1024; omega, by omega, rfl, ?_, ?_, ?_⟩
 ·show (advF [5] 4 _ 1 2 (led0 1 1) 2).j.ce ≤ 0
  rw [adv1]; simp [led0]
 ·show (advF [5] 4 _ 1 2 (led0 1 1) 2).j.fe ≤ 0
  rw [adv1]; simp [led0]
 ·show ¬ eOf 2 4 < eOf 2 4
  omega
theorem risA : Rising sgA.F [1] := by
 rw [sgA_eq]
 refine ⟨by simp, fun x hx => ?_, fun x _ => ⟨fun hx => ?_, fun hx => ?_⟩⟩
 ·simp at hx; subst hx; unfold inU; omega
 ·simp at hx; subst hx; rfl
 ·rw [keysF1 hx]; simp
theorem risB : Rising sgB.F [1, 2] := by
 rw [sgB_eq]
 refine ⟨by simp, fun x hx => ?_, fun x _ => ⟨fun hx => ?_, fun hx => ?_⟩⟩
 ·simp at hx; unfold inU; omega
 ·simp at hx; rcases hx with e | e <;> subst e <;> rfl
 ·rcases keysF2 hx with e | e <;> rw [e] <;> simp
theorem parA : ∀ r x, sgA.F r = some x → inU x.1 := by
 rw [sgA_eq]
 intro r x h
 have hk := keysF1 (r := r) (show (F1 r).isSome = true by rw [show F1 r = some x from h]; rfl)
 subst hk
 cases h
 simp [inU]
theorem parB : ∀ r x, sgB.F r = some x → inU x.1 := by
 rw [sgB_eq]
 intro r x h
 rcases keysF2 (r := r) (show (F2 r).isSome = true by rw [show F2 r = some x from h]; rfl) with hk | hk <;> subst hk <;> cases h <;> simp [inU]
theorem head_one {may : Int → Prop} {X : Nat → Nd} (h : (X 0).r = 1) : headF may X 1 1 = 1 := by
 have e : fnd X 1 1 = 0 := by simp [fnd, h]
 have e2 : bestL may X (1 - 1) (fun _ => -1) = fun _ => -1 := rfl
 have e3 : walkB (fun _ => -1) 1 0 = 0 := rfl
 unfold headF
 rw [e, e2, e3, if_neg (by omega)]
 exact h
theorem head_two {may : Int → Prop} {X : Nat → Nd} (h0 : (X 0).r = 1) (h1 : (X 1).r = 2) (hp : (X 1).p = 0) (hm : may 2) : headF may X 2 1 = 2 := by
 have e : fnd X 1 2 = 0 := by simp [fnd, h0]
 have e2 : bestL may X (2 - 1) (fun _ => -1) = bset (fun _ => -1) 0 1 := by
  show bestS may X (fun _ => -1) 1 = _
  unfold bestS
  rw [h1, hp, if_pos ⟨hm, by omega, by simp [betterF]⟩]
  rfl
 have e3 : walkB (bset (fun _ => -1) 0 1) 2 0 = 1 := by
  unfold walkB
  rw [if_pos ⟨by omega, by simp [bset]⟩]
  have e4 : bset (fun _ => -1) 0 1 (0 : Int).toNat = 1 := rfl
  rw [e4]
  unfold walkB
  rw [if_neg (by simp [bset])]
 unfold headF
 rw [e, e2, e3, if_neg (by omega)]
 exact h1
theorem may2 (G : Int → Option Int) (ep : Int) : MayLead F2 1 [1, 2] G 0 1 ep 2 := by
 refine ⟨.step (x := (1, 2, 1)) rfl (by omega) (.self 1), 2, rfl, by decide, ?_, .self 2⟩
 unfold leafF
 have e : belowT F2 1 2 1 = true := by decide
 rw [e]
 simp
theorem step_end {F : Int → Option (Int × Int × Int)} {f : Int} {ks : List Int} {may : Int → Prop} {wt : Int → Int} {h : Int} (hk : kidsT F f h ks = []) : stepB F f ks may wt h = none := by
 unfold stepB kidsB
 rw [hk]
 exact if_neg (by simp [fl, bestF])
theorem hdA (may : Int → Prop) (wt : Int → Int) : HdB (stepB F1 1 [1] may wt) 1 1 := .stop (step_end (by decide))
theorem hdB2 {may : Int → Prop} (hm : may 2) (wt : Int → Int) : HdB (stepB F2 1 [1, 2] may wt) 1 2 := by
 refine .next (k := 2) ?_ (.stop (step_end (by decide)))
 unfold stepB kidsB
 have e : kidsT F2 1 1 [1, 2] = [2] := by decide
 have e2 : fl may [2] = [2] := by unfold fl; simp [hm]
 rw [e, e2]
 have e3 : bestF wt [2] = (2, wt 2, true) := by simp [bestF, bstep]
 rw [e3]
 rfl
theorem me_feedA (q : Nat) (w : World) : (method 402 105 (.pointer (some ⟨q, 0, none⟩)) "Feed").run Tryz.prog w = .ok (157, .pointer (some ⟨q, 0, none⟩)) w := by kernel_rfl
theorem me_headA (q : Nat) (w : World) : (method 402 105 (.pointer (some ⟨q, 0, none⟩)) "Head").run Tryz.prog w = .ok (158, .pointer (some ⟨q, 0, none⟩)) w := by kernel_rfl
theorem me_feedB (q : Nat) (w : World) : (method 402 117 (.pointer (some ⟨q, 0, none⟩)) "Feed").run Tryz.prog w = .ok (174, .pointer (some ⟨q, 0, none⟩)) w := by kernel_rfl
theorem me_headB (q : Nat) (w : World) : (method 402 117 (.pointer (some ⟨q, 0, none⟩)) "Head").run Tryz.prog w = .ok (175, .pointer (some ⟨q, 0, none⟩)) w := by kernel_rfl
def evs2 : Array Value := evCells 0 2 0 0 0 (.slice none 0 0) (.slice none 0 0) ++ evCells 1 0 2 1 2 (.slice none 0 0) (.slice none 0 0)
theorem info_line : (Tryz.prog.info? 48).map (fun i => (i.zero, i.size, i.bytes)) = some (some (.agg #[.int .i64 0, .slice none 0 0]), 2, 32) := by kernel_rfl
theorem elem_line : ∃ i, Elem Tryz.prog 48 i (.agg #[.int .i64 0, .slice none 0 0]) 2 32 := info_parts info_line
theorem ownsRow_chg {S : Nat → Prop} {w w' : World} {base : Nat} {e : TypeId} {size n : Nat} {v : Value} {xs : List Value} (h : w.ownsRow base e size v n xs) (hc : Chg S w w') (hs : ∀ k, v.ownBlock = some k → ¬ S k) : w'.ownsRow base e size v n xs := by
 obtain ⟨h1, h2⟩ := h
 refine ⟨h1, ?_⟩
 rcases h2 with h2 | ⟨g, cap, cur, rfl, h3, h4, h5⟩
 ·exact .inl h2
 ·exact .inr ⟨g, cap, cur, rfl, h3, (hc.block g (Array.getElem?_eq_some_iff.1 h4).1 (hs g rfl)).trans h4, h5⟩
theorem ownsRow_type {w : World} {base : Nat} {e : TypeId} {size n : Nat} {v : Value} {xs : List Value} (h : w.ownsRow base e size v n xs) {k : Nat} (hk : v.ownBlock = some k) : ∃ cur, w.heap[k]? = some (.cells cur e (0, 0)) := by
 rcases h.2 with ⟨rfl, _⟩ | ⟨g, cap, cur, rfl, h3, h4, h5⟩
 ·cases hk
 ·cases hk
  exact ⟨cur, h4⟩
theorem ArrAt.notOwn {w : World} {J : AIds} {p : Nat} {α : Arr} (h : ArrAt w J p α) {b : Nat} {cur : Array Value} {e : TypeId} (hb : w.heap[b]? = some (.cells cur e (0, 0))) (h1 : e ≠ 110) (h2 : e ≠ 150) : ¬ AOwn J b := by
 intro hi
 rcases hi with rfl | rfl
 ·have := h.blk
  unfold Blk at this
  rw [this] at hb
  cases hb
  exact h1 rfl
 ·obtain ⟨_, _, cs, hg, _⟩ := h.row
  rw [hg] at hb
  cases hb
  exact h2 rfl
theorem arr1 (b s : Int) : (addA (passF arr0 b s) 2 1).n = 2 ∧ ((addA (passF arr0 b s) 2 1).X 0).r = 1 ∧ ((addA (passF arr0 b s) 2 1).X 0).p = -1 ∧ ((addA (passF arr0 b s) 2 1).X 1).r = 2 ∧ ((addA (passF arr0 b s) 2 1).X 1).p = 0 := by
 have e : fnd (passF arr0 b s).X 1 1 = 0 := by simp [fnd, passF_r, arr0]
 have en : (passF arr0 b s).n = 1 := rfl
 refine ⟨rfl, ?_, ?_, ?_, ?_⟩
 ·show (nset (passF arr0 b s).X 1 ⟨2, fnd (passF arr0 b s).X 1 1, 0, 0, 0⟩ 0).r = 1
  unfold nset; rw [if_neg (by omega), passF_r]; rfl
 ·show (nset (passF arr0 b s).X 1 ⟨2, fnd (passF arr0 b s).X 1 1, 0, 0, 0⟩ 0).p = -1
  unfold nset; rw [if_neg (by omega), passF_p]; rfl
 ·rfl
 ·exact e
theorem sgB_parts : sgB.F = F2 ∧ sgB.f = 1 ∧ sgB.je = 0 ∧ sgB.fr = 1 ∧ sgB.jr = 1 ∧ sgB.n = 2 := by
 rw [sgB_eq, sgA_eq]
 exact ⟨rfl, rfl, rfl, rfl, rfl, rfl⟩
theorem errV0 : errV (tickE (st0 [5] 4 0) 2) = .nilIface := by
 have e : tickE (st0 [5] 4 0) 2 = 0 := by unfold tickE st0; simp
 rw [e]; rfl
section
variable {w : World} {ad : Option Addr} {c : Nat}
set_option maxHeartbeats 8000000 in
theorem run_array (hb : Ints .u64 w ad [5]) {ge ce : Nat} (he : Blk w ge evs2 68) :
  Calls Tryz.prog 14 #[.int .i64 1, cfgV ad 1 c 4 0, .slice (some ⟨ge, 0, none⟩) 2 ce] w fun e w' => ∃ v s1 s2, e = .returned (.tuple #[v, .nilIface]) ∧ w'.ownsRow w.heap.size 48 2 v 2 [.int .i64 0, s1, .int .i64 0, s2] ∧
   w'.ownsRow w.heap.size 5 1 s1 (canonF sgA [1] 1).length (canonF sgA [1] 1) ∧ w'.ownsRow w.heap.size 5 1 s2 (canonF sgB [1, 2] 2).length (canonF sgB [1, 2] 2) ∧ w.grownBy w' none := by
 have HB := lh hb
 have HEV := lh he
 have hgl := he.lt
 clear hb he
 unfold cfgV
 go_enter Tryz.func14, Tryz.ntmps14
 go_upto_region 1 with (fail)
 refine nmC1 ?_
 intro W b0 hz hg
 obtain ⟨q, hq_q⟩ : ∃ q, q = w.heap.size := ⟨_, rfl⟩
 rw [← hq_q] at b0 hz hgl ⊢
 have HQ_q := lh hq_q
 clear hq_q
 have HQ := lh b0
 have HG := lh hg
 clear b0 hg
 replace HB := lh (Ints.kept HB.out HG.out)
 replace HEV := lh (HEV.out.g HG.out)
 obtain ⟨c0, c1, c2⟩ := HQ.out.c3
 go_wp2_with fail
 refine (rof_array (bs := [5]) HB.out may1).mono ?_
 rintro e w1 ⟨I, J, rfl, hst, ha, hex, hg, hm1, hm2⟩
 have hwW := HG.out.size
 replace HEV := lh (HEV.out.g hg)
 replace HG := lh (g2 HG.out hg)
 have h1 : ∀ i, Mut I i → w.heap.size ≤ i := fun i hi => Nat.le_trans hwW (hm1 i hi)
 have h2 : ∀ i, AOwn J i → w.heap.size ≤ i := fun i hi => Nat.le_trans hwW (hm2 i hi)
 clear hg c0 c1 c2 HB HQ hwW hm1 hm2
 have HH := lh hst
 have HA := lh ha
 have HEX := lh hex
 have HM1 := lh h1
 have HM2 := lh h2
 clear hst ha hex h1 h2
 go_wp2_with fail
 have mf := fun w => me_feedA J.q w
 have mh := fun w => me_headA J.q w
 refine wp_loop_rounds 3 ?_
 rw [rounds_succ]
 go_upto_region 7 with (fail)
 go_wp2_with (first
  | refine wpList_load_blk (off := 0) HBE.out rfl _ rfl rfl _ Tryz.underlying68 rfl (evCells 0 2 0 0 0 (.slice none 0 0) (.slice none 0 0)) (by as_aux_lemma => kernel_rfl) rfl ?_
  | refine wpList_load_blk (off := 0) HEV.out rfl _ rfl rfl _ Tryz.underlying68 rfl (evCells 0 2 0 0 0 (.slice none 0 0) (.slice none 0 0)) (by as_aux_lemma => kernel_rfl) rfl ?_
  | (refine wpList_store_new rfl (evCells 0 2 0 0 0 (.slice none 0 0) (.slice none 0 0)) ⟨_, _, rfl, rfl, rfl⟩ (by as_aux_lemma => kernel_rfl) rfl (by simp [evCells, Value.oneCell']) ?_; intro w2 hbE hgE; have HBE := lh hbE; replace HH := lh (HH.out.g hgE); replace HA := lh (HA.out.kept0 hgE); replace HEV := lh (HEV.out.g hgE); replace HG := lh (g2 HG.out hgE); clear hbE hgE))
 refine (feed_tick HH.out HA.out (fun i hi => by rw [HEX.out]; exact hi) 2).mono ?_
 rintro e w3 ⟨rfl, hst, ha, hc⟩
 rw [errV0]
 have hgw := HG.out.size
 have hgg := (((Chg.of (S := Mut I) HG.out)).trans hc).non HM1.out
 replace HEV := lh (hc.blk HEV.out (fun h => by have := HM1.out ge h; have := HQ_q.out; omega))
 clear HH HA HG HBE hgw hc
 have HH := lh hst
 have HA := lh ha
 have HG := lh hgg
 clear hst ha hgg
 change Hid (StoreAt w3 _ sgA) at HH
 go_wp2_with fail
 refine (number_nil w3).mono ?_
 rintro e w4 ⟨rfl, hg⟩
 replace HEV := lh (HEV.out.g hg)
 replace HH := lh (HH.out.g hg)
 replace HA := lh (HA.out.kept0 hg)
 replace HG := lh (g2 HG.out hg)
 clear hg
 go_wp2_with fail
 refine (head_calls HH.out wfA HA.out (fun i hi => by show I.ex i; rw [HEX.out]; exact hi) (fun i hi => by show -1 ≤ (-1 : Int) ∧ (-1 : Int) < _; omega) (fun i hi => by show inU 1; unfold inU; omega) (Nat.le_refl 1) risA (by simp) (sortUpTo2.less (by rw [sgA_eq]; show 1 ≤ 2; omega))).mono ?_
 rintro e w5 ⟨rfl, ha, hc⟩
 have hh1 : headF (MayLead sgA.F sgA.f [1] (srcG sgA) sgA.je sgA.fr (eOf sgA.slot sgA.S)) (passF arr0 (boostF sgA.bs sgA.S sgA.B) sgA.boosted).X arr0.n sgA.jr = 1 := by
  rw [show sgA.jr = 1 from by rw [sgA_eq]; rfl]
  exact head_one (by rw [passF_r]; rfl)
 rw [hh1]
 have hgw := HG.out.size
 have hgg := (((Chg.of (S := AOwn J) HG.out)).trans hc).non HM2.out
 replace HEV := lh (hc.blk HEV.out (fun h => by have := HM2.out ge h; have := HQ_q.out; omega))
 have hst := HH.out.exch hc (fun i hi => by show I.ex i; rw [HEX.out]; exact hi)
 clear HH HA HG hh1 hc hgw
 have HH := lh hst
 have HA := lh ha
 have HG := lh hgg
 clear hst ha hgg
 obtain ⟨N1, hN1⟩ : ∃ N1, N1 = w5.heap.size := ⟨_, rfl⟩
 have hmx : ∀ i, Mut I i → i < N1 := fun i hi => by rw [hN1]; exact HH.out.lt hi
 have hox : ∀ i, AOwn J i → i < N1 := fun i hi => by
  rw [hN1]
  rcases hi with e | e <;> rw [e]
  ·exact HA.out.blk.lt
  ·exact HA.out.row.lt
 have HMX := lh hmx
 have HOX := lh hox
 clear hmx hox
 go_wp2_with fail
 refine (canon_calls HH.out wfA parA risA (sortUpTo2.less (by rw [sgA_eq]; show 1 ≤ 2; omega)) (hd := 1) (by unfold inU; omega)).mono ?_
 rintro e w6 ⟨s1, rfl, hs1, hg⟩
 rw [← hN1] at hs1
 have hw6 : N1 ≤ w6.heap.size := by rw [hN1]; exact hg.size
 have hwN : w.heap.size ≤ N1 := by rw [hN1]; exact HG.out.size
 have hpos1 : 0 < (canonF sgA [1] 1).length := by unfold canonF; simp [putF_len, headN]; omega
 obtain ⟨gs1, cs1, rfl, _, _⟩ := hs1.form hpos1
 obtain ⟨L1, hL1⟩ : ∃ L1, L1 = canonF sgA [1] 1 := ⟨_, rfl⟩
 rw [← hL1] at hs1 ⊢
 replace HEV := lh (HEV.out.g hg)
 replace HH := lh (HH.out.g hg)
 replace HA := lh (HA.out.kept0 hg)
 replace HG := lh (g2 HG.out hg)
 have HS1 := lh hs1
 have HL1 := lh hL1
 clear hs1 hL1
 clear hg hpos1 hN1
 obtain ⟨i0, hi0⟩ := elem_line
 have HI := lh hi0
 clear hi0
 go_wp2_with (at_builtin; refine wpList_append_lies _ rfl _ _ 40 rfl N1 48 i0 (.agg #[.int .i64 0, .slice none 0 0]) 2 32 Tryz.underlying40 HI.out.1 HI.out.2.1 HI.out.2.2.1 HI.out.2.2.2 rfl (by decide) (.slice none 0 0) 0 [] rfl (World.ownsRow_nil _ _ _ _) ⟨w6.heap.size, 0, none⟩ 1 1 [.int .i64 0, .slice (some ⟨gs1, 0, none⟩) L1.length cs1] rfl rfl (World.news_of_block (MapKept.heap_alloc _ _).1) (by simp [Value.oneCell']) (by decide) (by unfold maxLen; omega) (by omega) (by simp; omega) _ rfl ?_; intro gl cl w7 hl hgl7 hatl hltl; have HL := lh hl; have HG7 := lh hgl7; clear hl hgl7 hatl hltl)
 have hg7 : w6.grownBy w7 none := g2 (World.grownBy_alloc w6 _ none) HG7.out
 have hl := HL.out
 rw [Nat.zero_add, List.nil_append] at hl
 replace HEV := lh (HEV.out.g hg7)
 replace HH := lh (HH.out.g hg7)
 replace HA := lh (HA.out.kept0 hg7)
 replace HS1 := lh (HS1.out.kept hg7 (.inr (by simp [Value.ownBlock])))
 replace HG := lh (g2 HG.out hg7)
 clear HL HG7
 have HL := lh hl
 clear hl hg7
 rw [rounds_succ]
 go_wp2_with (first
  | refine wpList_load_blk (off := 0) HBE.out rfl _ rfl rfl _ Tryz.underlying68 rfl (evCells 1 0 2 1 2 (.slice none 0 0) (.slice none 0 0)) (by as_aux_lemma => kernel_rfl) rfl ?_
  | refine wpList_load_blk (off := 28) HEV.out rfl _ rfl rfl _ Tryz.underlying68 rfl (evCells 1 0 2 1 2 (.slice none 0 0) (.slice none 0 0)) (by as_aux_lemma => kernel_rfl) rfl ?_
  | (refine wpList_store_new rfl (evCells 1 0 2 1 2 (.slice none 0 0) (.slice none 0 0)) ⟨_, _, rfl, rfl, rfl⟩ (by as_aux_lemma => kernel_rfl) rfl (by simp [evCells, Value.oneCell']) ?_; intro w8 hbE hgE; have HBE := lh hbE; replace HH := lh (HH.out.g hgE); replace HA := lh (HA.out.kept0 hgE); replace HL := lh (HL.out.kept hgE (.inr (by simp [Value.ownBlock]))); replace HS1 := lh (HS1.out.kept hgE (.inr (by simp [Value.ownBlock]))); replace HG := lh (g2 HG.out hgE); clear hbE hgE))
 have hx : ({ I with ch := .slice none 0 0 } : Ids).ex = AOwn J := HEX.out
 refine (feed_add HH.out wfA HA.out hx (by show 1 ≤ 2000; omega) add1).mono ?_
 rintro e w9 ⟨ch, g9, c9, rfl, hst, ha, hc, hg9⟩
 have hm9 : ∀ i, AOwn { J with g := g9, c := c9 } i → w.heap.size ≤ i := fun i hi => by
  rcases hi with e | e
  ·exact HM2.out i (.inl e)
  ·rw [e]
   rcases hg9 with h | h
   ·exact HM2.out g9 (.inr h)
   ·exact Nat.le_trans HG.out.size h
 have HM9 := lh hm9
 clear hg9 hm9
 have hown : ∀ b, N1 ≤ b → ¬ (Mut I b ∨ AOwn J b) := fun b hb h => by
  rcases h with h | h
  ·have := HMX.out b h; omega
  ·have := HOX.out b h; omega
 have hgg := (((Chg.of (S := fun i => Mut I i ∨ AOwn J i) HG.out)).trans hc).non (fun i hi => by rcases hi with h | h; exact HM1.out i h; exact HM2.out i h)
 have hl9 := ownsRow_chg HL.out hc (fun k hk => hown k (HL.out.lt k hk).1)
 have hs9 := ownsRow_chg HS1.out hc (fun k hk => hown k (HS1.out.lt k hk).1)
 clear HH HA HG HL HS1 HBE HEV hx hown hc
 have HH := lh hst
 have HA := lh ha
 have HG := lh hgg
 have HL := lh hl9
 have HS1 := lh hs9
 clear hst ha hgg hl9 hs9
 change Hid (StoreAt w9 _ sgB) at HH
 go_wp2_with fail
 refine (number_nil w9).mono ?_
 rintro e w10 ⟨rfl, hg⟩
 replace HH := lh (HH.out.g hg)
 replace HA := lh (HA.out.kept0 hg)
 replace HL := lh (HL.out.kept hg (.inr (by simp [Value.ownBlock])))
 replace HS1 := lh (HS1.out.kept hg (.inr (by simp [Value.ownBlock])))
 replace HG := lh (g2 HG.out hg)
 clear hg
 go_wp2_with fail
 obtain ⟨α, hα⟩ : ∃ α, α = addA (passF arr0 (boostF sgA.bs sgA.S sgA.B) sgA.boosted) 2 1 := ⟨_, rfl⟩
 rw [← hα] at HA
 obtain ⟨x1, x2, x3, x4, x5⟩ := arr1 (boostF sgA.bs sgA.S sgA.B) sgA.boosted
 rw [← hα] at x1 x2 x3 x4 x5
 clear hα
 have hpo : ParOk α.X α.n := fun i hi => by
  rw [x1] at hi
  rcases (show i = 0 ∨ i = 1 from by omega) with e | e <;> rw [e]
  ·rw [x3]; omega
  ·rw [x5]; omega
 have hro : RootOk α.X α.n := fun i hi => by
  rw [x1] at hi
  rcases (show i = 0 ∨ i = 1 from by omega) with e | e <;> rw [e]
  ·rw [x2]; unfold inU; omega
  ·rw [x4]; unfold inU; omega
 obtain ⟨y1, y2, y3, y4, y5, y6⟩ := sgB_parts
 have hh2 : headF (MayLead sgB.F sgB.f [1, 2] (srcG sgB) sgB.je sgB.fr (eOf sgB.slot sgB.S)) (passF α (boostF sgB.bs sgB.S sgB.B) sgB.boosted).X α.n sgB.jr = 2 := by
  rw [x1, y5]
  exact head_two (by rw [passF_r]; exact x2) (by rw [passF_r]; exact x4) (by rw [passF_p]; exact x5) (by rw [y1, y2, y3, y4]; exact may2 _ _)
 have hsu : SortUpTo sgB.n := sortUpTo2.less (by omega)
 have hn1 : 1 ≤ α.n := by omega
 have HPO := lh hpo
 have HRO := lh hro
 have HH2 := lh hh2
 have HSU := lh hsu
 clear hpo hro hh2 hsu
 clear x1 x2 x3 x4 x5 y1 y2 y3 y4 y5 y6
 refine (head_calls HH.out wfB HA.out (fun i hi => hi) HPO.out HRO.out hn1 risB (by simp) HSU.out).mono ?_
 rintro e w11 ⟨rfl, ha, hc⟩
 rw [HH2.out]
 have hgw := HG.out.size
 have hl9 := ownsRow_chg HL.out hc (fun k hk => by
  obtain ⟨cur, hcur⟩ := ownsRow_type HL.out hk
  exact HA.out.notOwn hcur (by decide) (by decide))
 have hs9 := ownsRow_chg HS1.out hc (fun k hk => by
  obtain ⟨cur, hcur⟩ := ownsRow_type HS1.out hk
  exact HA.out.notOwn hcur (by decide) (by decide))
 have hst := HH.out.exch hc (fun i hi => hi)
 have hgg := (((Chg.of (S := AOwn { J with g := g9, c := c9 }) HG.out)).trans hc).non HM9.out
 clear HH HA HG HL HS1 hc hgw
 have HH := lh hst
 have HG := lh hgg
 have HL := lh hl9
 have HS1 := lh hs9
 clear hst hgg hl9 hs9
 go_wp2_with fail
 refine (canon_calls HH.out wfB parB risB HSU.out (hd := 2) (by unfold inU; omega)).mono ?_
 rintro e w12 ⟨s2, rfl, hs2, hg⟩
 have hpos2 : 0 < (canonF sgB [1, 2] 2).length := by unfold canonF; simp [putF_len, headN]; omega
 obtain ⟨gs2, cs2, rfl, _, _⟩ := hs2.form hpos2
 obtain ⟨L2, hL2⟩ : ∃ L2, L2 = canonF sgB [1, 2] 2 := ⟨_, rfl⟩
 rw [← hL2] at hs2 ⊢
 have hs2' := ownsRow_base hs2 HG.out.size
 replace HL := lh (HL.out.kept hg (.inr (by simp [Value.ownBlock])))
 replace HS1 := lh (HS1.out.kept hg (.inr (by simp [Value.ownBlock])))
 have hN12 : N1 ≤ w12.heap.size := by have := (HL.out.lt gl rfl); omega
 replace HG := lh (g2 HG.out hg)
 have HS2 := lh hs2'
 have HL2 := lh hL2
 clear hs2' hL2
 clear hg hpos2 hs2 HH
 go_wp2_with (at_builtin; refine wpList_append_lies _ rfl _ _ 40 rfl N1 48 i0 (.agg #[.int .i64 0, .slice none 0 0]) 2 32 Tryz.underlying40 HI.out.1 HI.out.2.1 HI.out.2.2.1 HI.out.2.2.2 rfl (by decide) (.slice (some ⟨gl, 0, none⟩) 1 cl) 1 [.int .i64 0, .slice (some ⟨gs1, 0, none⟩) L1.length cs1] rfl (HL.out.alloc _) ⟨w12.heap.size, 0, none⟩ 1 1 [.int .i64 0, .slice (some ⟨gs2, 0, none⟩) L2.length cs2] rfl rfl (World.news_of_block (MapKept.heap_alloc _ _).1) (by simp [Value.oneCell']) (by decide) (by unfold maxLen; omega) (by omega) (by simp; omega) _ rfl ?_; intro gl2 cl2 w13 hl hgl7 hatl hltl; have HL3 := lh hl; have HG13 := lh hgl7; clear hl hgl7 hatl hltl)
 rw [rounds_succ]
 go_wp2
 go_ret2
 have hne1 : gs1 ≠ gl := fun e => by
  obtain ⟨c1, h1⟩ := ownsRow_type HS1.out (k := gs1) rfl
  obtain ⟨c2, h2⟩ := ownsRow_type HL.out (k := gl) rfl
  rw [e, h2] at h1
  cases h1
 have hne2 : gs2 ≠ gl := fun e => by
  obtain ⟨c1, h1⟩ := ownsRow_type HS2.out (k := gs2) rfl
  obtain ⟨c2, h2⟩ := ownsRow_type HL.out (k := gl) rfl
  rw [e, h2] at h1
  cases h1
 have hg13 : World.grownBy _ w13 (some gl) := HG13.out
 have hal := World.grownBy_alloc w12 (Obj.cells #[.int .i64 0, .slice (some ⟨gs2, 0, none⟩) L2.length cs2] 48) none
 have hs1' := (HS1.out.kept hal (.inr (by simp [Value.ownBlock]))).kept hg13 (.inr (by simpa [Value.ownBlock] using hne1))
 have hs2'' := (HS2.out.kept hal (.inr (by simp [Value.ownBlock]))).kept hg13 (.inr (by simpa [Value.ownBlock] using hne2))
 have hgl1 := (HL.out.lt gl rfl).1
 refine ⟨_, _, _, rfl, ownsRow_base HL3.out hwN, ?_, ?_, gnew (g2 HG.out hal) hg13 (by omega)⟩
 ·rw [← HL1.out]; exact ownsRow_base hs1' hwN
 ·rw [← HL2.out]; exact hs2''
end
end Go.Proofs.YtndfpmboanohcaaGreatDoor
