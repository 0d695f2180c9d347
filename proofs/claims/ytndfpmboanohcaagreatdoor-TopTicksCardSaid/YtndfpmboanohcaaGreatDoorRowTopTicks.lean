/- TopTicks: two ticks that are past leave the bytes of a state; for all numbers, balances, slots and engines: errors.errorType as the program's text lays it. -/
import Derived.Test.YtndfpmboanohcaaGreatDoorRows
import Derived.Test.YtndfpmboanohcaaGreatDoorCards
import Derived.Test.YtndfpmboanohcaaGreatDoorTie
import Derived.Test.YtndfpmboanohcaaGreatDoorAwhToLkg
import Derived.ProofKit
import Derived.OpenShut
import Derived.ShutString
import Derived.ChangeOld
import Derived.ChangeSame
import Derived.ChangeVars
import Derived.JoinedOf
import Derived.LaidLaws
import Derived.LaidHandle
import Derived.Stop.Joined
import Derived.SizedLaws
import Derived.SevenTiedAt
namespace Go.Proofs.YtndfpmboanohcaaGreatDoor.topTicks
open Go.ChangeShapes Go.WideShapes Go.ChangeAt Go.RowKit
open Go.ChangeMaps (open_string shut_string)
set_option linter.unusedVariables false
theorem own : ownKnob Tryz.prog.godebug = none := by kernel_rfl
theorem laidOut : laidOutB Tryz.prog = true := by kernel_rfl
theorem et : Tryz.prog.globalNamed "errors.errorType" = some 0 := by kernel_rfl
def IsRow (k : IntKind) (w : World) (a : Option Addr) (len cap : Nat) (zs : List Int) : Prop :=
 (a = none ∧ len = 0 ∧ cap = 0 ∧ zs = []) ∨
 ∃ x, a = some x ∧ len ≤ cap ∧ cap ≤ maxLen ∧ zs.length = cap ∧ (∀ i, i < zs.length → w.cell? (x.add i) = some (.int k (zs.getD i 0))) ∧ ∀ n ∈ zs, (Lit.int k n).wf = true
theorem sized_ints {H : Type} {enc : TypeId × Value → H} {P : Program} {W : World} {base : Nat} {spare : Nat → Bool} {held : Bool} {t e : TypeId} {k : IntKind} {a : Option Addr} {len cap : Nat} {d : DataW H} {ps : List MemPlace} {ts : List TypeId} {ds : List (DataW H)} {j : Nat}
  (hsz : (DataW.weightsEach P ts ds).all (· ≤ reachBytes) = true) (ht : ts[j]? = some t) (hd : ds[j]? = some d) (hu : P.underlying t = some (.slice e)) (he : P.underlying e = some (.int k)) (hc : P.cellsOf e = 1) {B : Nat} (hB : P.bytesOf e = B)
  (h : DataW.Trod enc P W base spare held t (.slice a len cap) d ps) : len * B ≤ 140737488351232 := by
 obtain ⟨fuel, hf⟩ := h
 rcases open_ints hu he hc hf with ⟨hcs, _⟩ | ⟨x, l, c, zs, hcs, _, hl, _, hz, hx, _, _⟩
 ·simp [Value.cells] at hcs
  obtain ⟨rfl, rfl, rfl⟩ := hcs
  simp
 ·simp [Value.cells] at hcs
  obtain ⟨rfl, rfl, rfl⟩ := hcs
  obtain ⟨hx, _⟩ := Prod.mk.inj hx
  subst hx
  have z := sized_slice hsz ht hd hu
  rw [hB] at z
  have hl2 : len ≤ zs.length := by
   rw [hz]
   split
   ·exact hl
   ·exact Nat.le_refl _
  have h1 : (lits (H := H) k (zs.take len)).length + (lits (H := H) k (zs.drop len)).length = zs.length := by
   simp [lits]
   omega
  rw [h1] at z
  have := Nat.mul_le_mul_right B hl2
  unfold reachBytes at z
  omega
theorem ticks_any {w0 : World} {na ba : Option Addr} {nc bc : Nat} {ns bls : List Int} {s k : Int} (hE : w0.cell? ⟨0, 0, none⟩ = some (.iface 199 (.agg #[.pointer (some ⟨1, 42, none⟩)])))
  (hn : ns = [] ∨ ∃ g o, na = some ⟨g, o, none⟩ ∧ Ints .u8 w0 na ns ∧ ns.length ≤ nc ∧ nc ≤ 9223372036854775807 ∧ ∀ x ∈ ns, 0 ≤ x ∧ x < 256) (hb : Ints .u8 w0 ba bls) (hbb : ∀ x ∈ bls, 0 ≤ x ∧ x < 256) (hs : 0 ≤ s ∧ s < 256) (hk : 0 ≤ k ∧ k < 256) :
  Calls Tryz.prog 5 #[.slice na ns.length nc, .slice ba bls.length bc, .int .u8 s, .int .u8 k] w0 fun e w' => e = .returned (.bool true) ∧ w0.grownBy w' none := by
 have haw := awake_eng insA insB saysA saysB hE
 have h4 : k % 4 = 0 ∨ k % 4 = 1 ∨ k % 4 = 2 ∨ k % 4 = 3 := by omega
 rcases h4 with h4 | h4 | h4 | h4
 ·exact ticks_calls insS h4 hk haw hE hn hb hbb hs
 ·exact ticks_calls insA h4 hk haw hE hn hb hbb hs
 ·exact ticks_calls insL h4 hk haw hE hn hb hbb hs
 ·exact ticks_calls insB h4 hk haw hE hn hb hbb hs
theorem errCell {W : World} (h : laidMetH Tryz.prog Rows.topTicksRow.laid W) : W.cell? ⟨0, 0, none⟩ = some (.iface 199 (.agg #[.pointer (some ⟨1, 42, none⟩)])) := by
 have h2 : handlesMet Tryz.prog [("errors.errorType", Rows.laid_errors_errorType)] W := by
  have hf : (Rows.topTicksRow.laid.filter fun x => x.2.handleName?.isSome) = [("errors.errorType", Rows.laid_errors_errorType)] := by kernel_rfl
  unfold laidMetH at h
  rw [hf] at h
  exact h.2
 have h3 := h2 _ (List.mem_singleton.2 rfl)
 have hn : (Rows.laid_errors_errorType : DataW Unit).funcsIn? = none := by kernel_rfl
 simp only [hn] at h3
 obtain ⟨name, u, ty, e1, e2, e3, e4, e5⟩ := h3
 have hu : (Tryz.prog.cutTypes.find? (·.1 == "internal/reflectlite.rtype")).map (·.2) = some 199 := by kernel_rfl
 rw [hu] at e2
 obtain rfl := Option.some.inj e2
 have hall : (match (Rows.laid_errors_errorType : DataW Unit).handleName? with
  | some n => (List.range Tryz.prog.types.size).all fun t => !Tryz.prog.rowNamed t n || t == 42
  | none => false) = true := by kernel_rfl
 rw [e1] at hall
 simp only [List.all_eq_true, List.mem_range] at hall
 have hty := hall ty e3
 rw [e4] at hty
 obtain rfl : ty = 42 := by simpa using hty
 have hv : W.var? Tryz.prog "errors.errorType" = some #[.iface 199 (.agg #[.pointer (some ⟨1, 42, none⟩)])] := e5
 unfold World.var? at hv
 simp only [et] at hv
 have h0 : ∃ t fz, W.heap[0]? = some (.cells #[.iface 199 (.agg #[.pointer (some ⟨1, 42, none⟩)])] t fz) := by
  simp only [Option.bind_some] at hv
  split at hv
  ·rename_i cs t fz hh
   obtain rfl := Option.some.inj hv
   exact ⟨_, _, hh⟩
  ·cases hv
 obtain ⟨t, fz, hh⟩ := h0
 simp [World.cell?, hh]
noncomputable def laidWorld (os : Os) : World :=
 let w0 := World.holding Tryz.prog os ⟨#[], #[], []⟩
 { w0 with heap := w0.heap.modify 0 fun
    | .cells _ t frozen => .cells #[.iface 199 (.agg #[.pointer (some ⟨1, 42, none⟩)])] t frozen
    | o => o }
theorem laidWorld_met (os : Os) (args : Array Value) : laidMetH Tryz.prog Rows.topTicksRow.laid ((laidWorld os).forCall (fun _ _ => 0) ⟨#[], args, []⟩).memory :=
 laidMetH_of_parts (laidMet_nil _ _) (by kernel_rfl)
set_option maxRecDepth 100000 in
theorem lifted (os : Os) (started : os.Started) (H : Type) (enc : TypeId × Value → H) :
  ReturnsInHanded {} Tryz.checked os 5 .any (fun w args => (Rows.topTicksSpec.pre enc Tryz.prog Tryz.f5 [] false w args ∧ laidMetH Tryz.prog Rows.topTicksRow.laid w) ∧ sizedMet enc Tryz.prog Tryz.f5 (OpenSpec.ofChange Rows.topTicksSpec) false w args)
   (Rows.topTicksSpec.post enc Tryz.prog Tryz.f5 false true false false) := by
 refine returnsInHanded_of_change_and (C := Tryz.checked) (X := fun w _ => laidMetH Tryz.prog Rows.topTicksRow.laid w) (fun _ _ _ hh h => h.of_heap hh) own started (by kernel_rfl) Tryz.func5
  (ChangeSpec.witness_at (enc := enc) (C := Tryz.checked) (os := os) (X := fun w _ => laidMetH Tryz.prog Rows.topTicksRow.laid w) false (laidWorld os) #[.slice none 0 0, .slice none 0 0, .int .u8 0, .int .u8 0] 8 rfl (by kernel_rfl) (by kernel_rfl) (by kernel_rfl) (by kernel_rfl) (by kernel_rfl) (laidWorld_met os _)) ?_
 intro W base args ds gs before hval0 hW hcnd hsz0 hL _
 have hsz : (DataW.weightsEach Tryz.prog (Tryz.f5.params.toList ++ Rows.topTicksSpec.plain.varTypes Tryz.prog) (ds ++ gs)).all (· ≤ reachBytes) = true := hsz0
 have hval : ∀ (j : Nat) t v, Tryz.f5.params[j]? = some t → args[j]? = some v → Value.okWide Tryz.prog W .any base t v := hval0
 have hW' := hW
 obtain ⟨p, q, hA0, hV, rfl, hfz, hnd⟩ := hW
 have hA : DataW.TrodAll enc Tryz.prog W 0 (fun _ => true) true Tryz.f5.params.toList args.toList ds p := hA0
 rw [Tryz.params5] at hA hval hsz
 obtain ⟨v0, vs0, d0, ds0, p0, q0, hargs, rfl, rfl, h0, r0⟩ := trodAll_cons hA
 obtain ⟨v1, vs1, d1, ds1, p1, q1, rfl, rfl, rfl, h1, r1⟩ := trodAll_cons r0
 obtain ⟨v2, vs2, d2, ds2, p2, q2, rfl, rfl, rfl, h2, r2⟩ := trodAll_cons r1
 obtain ⟨v3, vs3, d3, ds3, p3, q3, rfl, rfl, rfl, h3, r3⟩ := trodAll_cons r2
 obtain ⟨rfl, rfl, rfl⟩ := trodAll_nil r3
 obtain rfl : args = #[v0, v1, v2, v3] := by cases args; simp_all
 obtain ⟨rfl, rfl⟩ := trodVars_none hV
 obtain ⟨a0, len0, cap0, rfl⟩ := okWide_slice Tryz.underlying23 (hval 0 23 v0 rfl rfl)
 have k0 := h0
 have lt0 : ∀ x ∈ p0, x.block < W.heap.size := by obtain ⟨m, hm⟩ := k0; exact DataW.trod_lt m _ _ _ hm
 obtain ⟨z0, w0⟩ : ∃ zs, IsRow .u8 W a0 len0 cap0 zs := by
  obtain ⟨fuel, hf⟩ := h0
  rcases open_ints Tryz.underlying23 Tryz.underlying5 (by kernel_rfl) hf with ⟨hcs, _⟩ | ⟨x, l, c, zs, hcs, _, hl, hm, hz, _, hcell, hwz⟩
  ·simp [Value.cells] at hcs
   obtain ⟨rfl, rfl, rfl⟩ := hcs
   exact ⟨[], .inl ⟨rfl, rfl, rfl, rfl⟩⟩
  ·simp [Value.cells] at hcs
   obtain ⟨rfl, rfl, rfl⟩ := hcs
   exact ⟨zs, .inr ⟨_, rfl, hl, hm, by simpa using hz, hcell, hwz⟩⟩
 obtain ⟨a1, len1, cap1, rfl⟩ := okWide_slice Tryz.underlying23 (hval 1 23 v1 rfl rfl)
 have k1 := h1
 have lt1 : ∀ x ∈ p1, x.block < W.heap.size := by obtain ⟨m, hm⟩ := k1; exact DataW.trod_lt m _ _ _ hm
 obtain ⟨z1, w1⟩ : ∃ zs, IsRow .u8 W a1 len1 cap1 zs := by
  obtain ⟨fuel, hf⟩ := h1
  rcases open_ints Tryz.underlying23 Tryz.underlying5 (by kernel_rfl) hf with ⟨hcs, _⟩ | ⟨x, l, c, zs, hcs, _, hl, hm, hz, _, hcell, hwz⟩
  ·simp [Value.cells] at hcs
   obtain ⟨rfl, rfl, rfl⟩ := hcs
   exact ⟨[], .inl ⟨rfl, rfl, rfl, rfl⟩⟩
  ·simp [Value.cells] at hcs
   obtain ⟨rfl, rfl, rfl⟩ := hcs
   exact ⟨zs, .inr ⟨_, rfl, hl, hm, by simpa using hz, hcell, hwz⟩⟩
 obtain ⟨a2, rfl, rfl, rfl, w2⟩ := open_int Tryz.underlying5 (hval 2 5 v2 rfl rfl) h2
 obtain ⟨a3, rfl, rfl, rfl, w3⟩ := open_int Tryz.underlying5 (hval 3 5 v3 rfl rfl) h3
 clear hA0 hval0 hsz0 hsz
 have u2 : 0 ≤ a2 ∧ a2 ≤ 255 := by simpa [Lit.wf, IntKind.min, IntKind.max, IntKind.signed, IntKind.bits] using w2
 have u3 : 0 ≤ a3 ∧ a3 ≤ 255 := by simpa [Lit.wf, IntKind.min, IntKind.max, IntKind.signed, IntKind.bits] using w3
 obtain ⟨ns, e0, _, _, hn⟩ := row_num w0
 obtain ⟨bls, e1, hb, hbb, _⟩ := row_num w1
 subst e0
 subst e1
 have hE : W.cell? ⟨0, 0, none⟩ = some (.iface 199 (.agg #[.pointer (some ⟨1, 42, none⟩)])) := errCell hL
 refine (ticks_any hE hn hb hbb (by omega) (by omega)).mono fun e W' ⟨he, hgr⟩ => ?_
 have bel := grown_lt hgr
 subst he
 exact ⟨_, rfl, _, _, _, [], _, [], hW', trodAll_mk1 (shut_bool Tryz.underlying4 _), (trodAll_cons_mk (Below.trod laidOut (by kernel_rfl) (of_decide_eq_true (by kernel_rfl)) k0 bel lt0) (trodAll_cons_mk (Below.trod laidOut (by kernel_rfl) (of_decide_eq_true (by kernel_rfl)) k1 bel lt1) (trodAll_cons_mk (shut_int Tryz.underlying5 w2) (trodAll_cons_mk (shut_int Tryz.underlying5 w3) trodAll_mk0)))), rfl, bel.frame _, fun h => by cases h⟩
theorem over : Rows.TopTicksSaid :=
 OpenClaim.holds_of_wide 5 Tryz.f5 rfl rfl rfl rfl rfl rfl rfl ⟨rfl, rfl, rfl, rfl, rfl⟩ rfl rfl rfl rfl rfl (by kernel_rfl) Tryz.func5 (by kernel_rfl)
  (of_decide_eq_true (by kernel_rfl)) (by unfold Func.isWrapper; first | (rw [if_pos (by decide +kernel)]; kernel_rfl) | (rw [if_neg (by decide +kernel)]; exact ⟨rfl, rfl⟩))
  (fun os started H enc _ => lifted os started H enc)
end Go.Proofs.YtndfpmboanohcaaGreatDoor.topTicks
namespace Go.Proofs.YtndfpmboanohcaaGreatDoor
theorem topTicks_holds : Rows.TopTicksCardSaid :=
 Claim7.holds_tied_plain_at .later [] [.handle] true (true, "e6c06849b765f842a52dd29483a1cda240efe8cba8f75583089c2bc426042892") true
  topTicks.over (fun _ h => by cases h) (by kernel_rfl) (fun _ h => by cases h) topTicks_row_tie rfl ⟨rfl, rfl⟩ (by kernel_rfl) rfl
  (fun f fn hf hfn => by
    obtain rfl : f = 5 := Option.some.inj ((show Tryz.prog.funcNamed "psephos/psephostop.TopTicks" = some 5 by kernel_rfl).symm.trans hf) |>.symm
    obtain rfl : fn = Tryz.f5 := (Option.some.inj (Tryz.func5.symm.trans hfn)).symm
    exact ⟨by kernel_rfl, fun j t ht => by
     rw [Tryz.params5] at ht
     have h3 : t = 23 ∨ t = 5 := by
      rcases j with _ | _ | _ | _ | j
      ·left; simpa using ht.symm
      ·left; simpa using ht.symm
      ·right; simpa using ht.symm
      ·right; simpa using ht.symm
      ·simp at ht
     rcases h3 with h3 | h3 <;> subst h3
     ·exact (show Tryz.prog.wantsStandIn 23 = false by kernel_rfl)
     ·exact (show Tryz.prog.wantsStandIn 5 = false by kernel_rfl)⟩)
  (by kernel_rfl)
end Go.Proofs.YtndfpmboanohcaaGreatDoor
