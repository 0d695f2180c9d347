/- Contract of viable.Of. -/
import Derived.Test.YtndfpmboanohcaaGreatDoorVia
namespace Go.Proofs.YtndfpmboanohcaaGreatDoor
set_option maxRecDepth 100000
open Go.RowKit Go.Maps SkipPure

/-- What viable.Of answers: the blocks that may lead to the head. -/
def MayLead (F : Int → Option (Int × Int × Int)) (f : Int) (ks : List Int) (G : Int → Option Int) (je fr ep : Int) (y : Int) : Prop := Under F f y f ∧ Viab F f ks (leafF F f G je fr ep) y
set_option maxHeartbeats 4000000 in
theorem viable_calls {w : World} {tp tb n : Nat} {f : Int} {F : Int → Option (Int × Int × Int)} {m mn : Nat} {G : Int → Option Int} {je jr fe fr ep : Int} {ks : List Int} (h : TreeAt w tp tb n f F) (W : WellT f F) (hm : RawMap Tryz.prog 27 w m mn (srcs G))
    (hR : Rising F ks) (hkl : ks.length ≤ 1000000) (hn : n ≤ 1000000) (hS : SortUpTo n) (hfr : inU fr) (hGb : ∀ r, 0 ≤ (G r).getD 0 ∧ (G r).getD 0 ≤ 1099511627776) :
    Calls Tryz.prog 149 #[.pointer (some ⟨tp, 0, none⟩), viewV je jr fe fr ep m] w fun e w' => ∃ ob, e = .returned (.map (some ob)) ∧ BSet w' ob (MayLead F f ks G je fr ep) ∧ w.heap.size ≤ ob ∧ w.grownBy w' none := by
  have hmm := @run_makeMap Tryz.prog
  have HT := Lib.hid h
  have HM := Lib.hid hm
  have htl : tp < w.heap.size := (Array.getElem?_eq_some_iff.1 h.2.1).1
  have htb : tb < w.heap.size := h.2.2.lt
  have hml := hm.lt
  obtain ⟨x, hx⟩ := Option.isSome_iff_exists.1 W.first
  have HR := Lib.hid hR
  have HW := Lib.hid W
  have HX := Lib.hid hx
  have HS := Lib.hid hS
  have HGB := Lib.hid hGb
  clear h hm hR W hx hS hGb
  unfold viewV
  go_enter Tryz.func149, Tryz.ntmps149
  go_upto_region 3 with (fail)
  obtain ⟨⟨g1, g2'⟩, gz, gg⟩ := alloc2 w #[.pointer (some ⟨tp, 0, none⟩)] #[.int .i64 je, .int .u64 jr, .int .i64 fe, .int .u64 fr, .int .i64 ep, .map (some m)] 71 278
  generalize (w.alloc (Obj.cells #[Value.pointer (some ⟨tp, 0, none⟩)] 71)).alloc (Obj.cells #[Value.int IntKind.i64 je, Value.int IntKind.u64 jr, Value.int IntKind.i64 fe, Value.int IntKind.u64 fr, Value.int IntKind.i64 ep, Value.map (some m)] 278) = W2 at g1 g2' gz gg ⊢
  have hs := BSet.made W2
  have hg3 := World.grownBy_alloc W2 (Obj.map #[] 0) none
  have hz3 : (W2.alloc (Obj.map #[] 0)).heap.size = W2.heap.size + 1 := by simp
  rw [gz] at hs hz3
  generalize W2.alloc (Obj.map #[] 0) = W3 at hs hg3 hz3 ⊢
  obtain ⟨q, hq⟩ : ∃ q, q = w.heap.size := ⟨_, rfl⟩
  rw [← hq] at g1 g2' hs hz3 htl htb hml ⊢
  have HQ := Lib.hid hq
  clear hq gz
  obtain ⟨⟨k1, k2⟩, kz, kg⟩ := alloc2 W3 #[.map (some (q + 1 + 1))] #[.nilFunc] 75 212
  rw [hz3] at k1 k2 kz
  generalize (W3.alloc (Obj.cells #[Value.map (some (q + 1 + 1))] 75)).alloc (Obj.cells #[Value.nilFunc] 212) = W5 at k1 k2 kz kg ⊢
  have hcl : W5.cell? ⟨q + 1 + 1 + 1 + 1, 0, none⟩ = some .nilFunc := k2.c1
  have hfz : W5.frozen? ⟨q + 1 + 1 + 1 + 1, 0, none⟩ = false := k2.f1
  have hst : (store ⟨q + 1 + 1 + 1 + 1, 0, none⟩ (.func (.func 153) #[] #[.pointer (some ⟨q, 0, none⟩), .pointer (some ⟨q + 1, 0, none⟩), .pointer (some ⟨q + 1 + 1 + 1 + 1, 0, none⟩), .pointer (some ⟨q + 1 + 1 + 1, 0, none⟩)])).run Tryz.prog W5
      = .ok () (W5.setCell ⟨q + 1 + 1 + 1 + 1, 0, none⟩ (.func (.func 153) #[] #[.pointer (some ⟨q, 0, none⟩), .pointer (some ⟨q + 1, 0, none⟩), .pointer (some ⟨q + 1 + 1 + 1 + 1, 0, none⟩), .pointer (some ⟨q + 1 + 1 + 1, 0, none⟩)])) := by
    rw [run_store _ _ _ _ _ rfl, hcl, hfz]
    rfl
  go_upto_region 4 with (fail)
  refine nsC1 k2 ?_
  intro W6 k3 kz6 kg6
  simp only [List.setIfInBounds_toArray, List.set_cons_zero] at k3
  have hg35 := kg
  have hk1 := k1.kept kg6 (by simp)
  have hh1 := ((g1.g hg3).g kg).kept kg6 (by simp; omega)
  have hh2 := ((g2'.g hg3).g kg).kept kg6 (by simp; omega)
  have hs6 := (hs.g kg).kept kg6 (by simp; omega)
  have hgw : w.grownBy W6 none := gnew (g2 (g2 gg hg3) kg) kg6 (by have := HQ.out; omega)
  have hctx : VCtx W6 q (q + 1) (q + 1 + 1 + 1 + 1) (q + 1 + 1 + 1) (q + 1 + 1) tp tb n f F m mn G je jr fe fr ep :=
    ⟨hh1, hh2, k3, hk1, HT.out.kept hgw (by simp), HM.out.kept hgw (by simp), by omega, by omega, by omega, by omega, by omega, by omega, by omega⟩
  have HC := Lib.hid (hctx.g (gdrew (World.grownBy.refl _ none)))
  have HB := Lib.hid (hs6.g (gdrew (World.grownBy.refl _ none)))
  have HG := Lib.hid (gdrew hgw)
  have c1 := hctx.b1.c1
  have c3 := hctx.b3.c1
  unfold intoV at c3
  clear gg hg3 hml htb htl hz3 hs g2' g1 k1 k2 kz kg hcl hfz hst k3 kz6 kg6 hg35 hk1 hh1 hh2 hs6 hgw hctx
  go_region_held3 (fun w' => w'.cell? ⟨q, 0, none⟩ = some (.pointer (some ⟨tp, 0, none⟩)) ∧ w'.cell? ⟨q + 1 + 1 + 1 + 1, 0, none⟩ = some (.func (.func 153) #[] #[.pointer (some ⟨q, 0, none⟩), .pointer (some ⟨q + 1, 0, none⟩), .pointer (some ⟨q + 1 + 1 + 1 + 1, 0, none⟩), .pointer (some ⟨q + 1 + 1 + 1, 0, none⟩)]))
    (go_keep)
    (first
      | (go_at_call 145
         refine (tfirst_calls HC.out.tree).mono ?_
         rintro e wg ⟨rfl, rfl⟩)
      | (go_at_call 153
         refine (into_calls HR.out hkl HW.out hn HS.out hfr HGB.out _ f x (fun _ => False) _ HX.out (Nat.lt_succ_self _) (fun _ h => h.elim) HC.out HB.out).mono ?_
         rintro e wg ⟨rfl, hbs, hgg⟩
         replace HC := Lib.hid (HC.out.k hgg)
         have HBS := Lib.hid hbs
         have HGN := Lib.hid (gnew HG.out hgg (by have := HQ.out; omega))
         have c1 := HC.out.b1.c1
         have c3 := HC.out.b3.c1
         unfold intoV at c3
         clear hgg hbs))
  have c4 := HC.out.b4.c1
  go_wp2
  go_ret
  exact ⟨q + 1 + 1, rfl, HBS.out.imp (fun y => by unfold LaidBy MayLead; simp), by have := HQ.out; omega, HGN.out⟩
end Go.Proofs.YtndfpmboanohcaaGreatDoor
