/- The maker: its numbers and its blocks; contracts of next and block. -/
import Derived.Test.YtndfpmboanohcaaGreatDoorFea
namespace Go.Proofs.YtndfpmboanohcaaGreatDoor
set_option maxRecDepth 100000
open Go.RowKit Go.Maps SkipPure
def Num (w : World) (mp : Nat) (na : Option Addr) (nc : Nat) (ns : List Int) : Prop :=
 ns = [] ∨ ∃ g o, na = some ⟨g, o, none⟩ ∧ Ints .u8 w na ns ∧ g ≠ mp ∧ ns.length ≤ nc ∧ nc ≤ 9223372036854775807 ∧ ∀ x ∈ ns, 0 ≤ x ∧ x < 256
theorem Num.chg {S : Nat → Prop} {w w' : World} {mp nc : Nat} {na : Option Addr} {ns : List Int} (h : Num w mp na nc ns) (hc : Chg S w w') (hs : ∀ ad, na = some ad → ¬ S ad.block) : Num w' mp na nc ns := by
 rcases h with h | ⟨g, o, h1, h2, h3⟩
 ·exact .inl h
 ·exact .inr ⟨g, o, h1, h2.chg hc hs, h3⟩
def Mk (w : World) (mp p : Nat) (vb : Value) (nb : Option Nat) : Prop :=
 ∃ na nc ns, Blk w mp #[.pointer (some ⟨p, 0, none⟩), .slice na ns.length nc, vb] 92 ∧ Num w mp na nc ns ∧ ∀ ad, na = some ad → nb = some ad.block
structure Bls (w : World) (base : Nat) (vb : Value) (bl : List Int) : Prop where
 row : w.ownsRow base 27 1 vb bl.length (bl.map (Value.int .u64))
 n : 1 ≤ bl.length
 n2 : bl.length ≤ 1000000
 u : ∀ x ∈ bl, inU x
section
variable {w w' : World} {mp p base : Nat} {vb : Value} {nb : Option Nat} {bl : List Int}
theorem Mk.chg {S : Nat → Prop} (h : Mk w mp p vb nb) (hc : Chg S w w') (hm : ¬ S mp) (hn : ∀ b, nb = some b → ¬ S b) : Mk w' mp p vb nb := by
 obtain ⟨na, nc, ns, h1, h2, h3⟩ := h
 exact ⟨na, nc, ns, hc.blk h1 hm, h2.chg hc (fun ad e => hn _ (h3 ad e)), h3⟩
theorem Mk.g (h : Mk w mp p vb nb) (hg : w.grownBy w' none) : Mk w' mp p vb nb := h.chg (S := fun _ => False) (Chg.of hg) (fun h => h) (fun _ _ h => h)
theorem Mk.lt (h : Mk w mp p vb nb) : mp < w.heap.size := by
 obtain ⟨na, nc, ns, h1, _⟩ := h
 exact h1.lt
theorem Bls.g (h : Bls w base vb bl) (hg : w.grownBy w' none) : Bls w' base vb bl := ⟨ownsRow_g h.row hg, h.n, h.n2, h.u⟩
theorem Bls.chg {S : Nat → Prop} (h : Bls w base vb bl) (hc : Chg S w w') (hs : ∀ k, vb.ownBlock = some k → ¬ S k) : Bls w' base vb bl := ⟨rowChg h.row hc hs, h.n, h.n2, h.u⟩
theorem Bls.form (h : Bls w base vb bl) : ∃ g c, vb = .slice (some ⟨g, 0, none⟩) bl.length c ∧ Ints .u64 w (some ⟨g, 0, none⟩) bl := by
 obtain ⟨g, c, rfl, _, _⟩ := h.row.form h.n
 refine ⟨g, c, rfl, fun i hi => ⟨_, rfl, ?_⟩⟩
 refine h.row.cells (g := g) rfl i _ ?_
 rw [List.getElem?_map, List.getElem?_eq_getElem hi]
 simp [List.getD_eq_getElem?_getD, List.getElem?_eq_getElem hi]
theorem Mk.ne (h : Mk w mp p vb nb) {b : Nat} {cur : Array Value} {e : TypeId} (hb : w.heap[b]? = some (.cells cur e (0, 0))) (he : e ≠ 92) : b ≠ mp := by
 obtain ⟨na, nc, ns, h1, _⟩ := h
 rintro rfl
 unfold Blk at h1
 rw [h1] at hb
 cases hb
 exact he rfl
theorem Bls.ne (h : Bls w base vb bl) (hm : Mk w mp p vb nb) : ∀ k, vb.ownBlock = some k → ¬ k = mp := fun k hk => by
 obtain ⟨cur, hcur⟩ := ownsRow_ty h.row hk
 exact hm.ne hcur (by decide)
theorem mnext_calls (h : Mk w mp p vb nb) (hf : ∃ a n c, vb = .slice a n c) {n : Int} (hn : 0 < n ∧ n ≤ 1000000) :
  Calls Tryz.prog 31 #[.pointer (some ⟨mp, 0, none⟩), .int .i64 n] w fun e w' => ∃ x, e = .returned (.int .i64 x) ∧ 0 ≤ x ∧ x < n ∧ Mk w' mp p vb nb ∧ w.grownBy w' (some mp) := by
 obtain ⟨na, nc, ns, h1, h2, h3⟩ := h
 obtain ⟨a, m, c, rfl⟩ := hf
 cases ns with
 | nil =>
  refine (next_nil h1 n).mono ?_
  rintro e w' ⟨rfl, rfl⟩
  exact ⟨0, rfl, by omega, by omega, ⟨na, nc, [], h1, h2, h3⟩, gR _ _⟩
 | cons x xs =>
  rcases h2 with h2 | ⟨g, o, rfl, h4, h5, h6, h7, h8⟩
  ·cases h2
  ·have hx := h8 x (by simp)
   refine (next_cons h1 h4 h5 hx (by simpa using h6) h7 hn).mono ?_
   rintro e w' ⟨rfl, o', k1, k2, k3⟩
   refine ⟨x % n, rfl, Int.emod_nonneg _ (by omega), Int.emod_lt_of_pos _ hn.1, ⟨some ⟨g, o', none⟩, nc - 1, xs, k1, .inr ⟨g, o', rfl, k2, h5, ?_, by omega, fun y hy => h8 y (List.mem_cons_of_mem _ hy)⟩, fun ad e => ?_⟩, k3⟩
   ·simp only [List.length_cons] at h6
    omega
   ·cases e
    have h := h3 _ rfl
    exact h
theorem Mk.c0 (h : Mk w mp p vb nb) : w.cell? ⟨mp, 0, none⟩ = some (.pointer (some ⟨p, 0, none⟩)) := by
 obtain ⟨na, nc, ns, h1, _⟩ := h
 exact h1.at 0
theorem Mk.c2 (h : Mk w mp p vb nb) : w.cell? ⟨mp, 2, none⟩ = some vb := by
 obtain ⟨na, nc, ns, h1, _⟩ := h
 exact h1.at 2
set_option maxHeartbeats 4000000 in
theorem mblock_calls (h : Mk w mp p vb nb) (hb : Bls w base vb bl) :
  Calls Tryz.prog 32 #[.pointer (some ⟨mp, 0, none⟩)] w fun e w' => ∃ r, e = .returned (.int .u64 r) ∧ inU r ∧ r ∈ bl ∧ Mk w' mp p vb nb ∧ Chg (fun i => i = mp) w w' := by
 have hne := hb.ne h
 obtain ⟨g, c, hv, hi⟩ := hb.form
 have hu := hb.u
 have hn1 := hb.n
 have hn2 := hb.n2
 have hgm : g ≠ mp := hne g (by rw [hv]; rfl)
 clear hne hb
 subst hv
 have HI := lh hi
 have HH := lh h
 have HU := lh hu
 clear h hu hi
 go_enter Tryz.func32, Tryz.ntmps32
 go_wp2_with fail
 refine (mnext_calls HH.out ⟨_, _, _, rfl⟩ (n := 8) (by omega)).mono ?_
 rintro e w1 ⟨x, rfl, hx0, hx1, hm, hg⟩
 have hc : Chg (fun i => i = mp) w w1 := Chg.one hg rfl
 replace HI := lh (HI.out.chg hc (fun ad e => by cases e; exact hgm))
 clear HH hg
 have HH := lh hm
 have HG := lh hc
 clear hm hc
 go_upto_if 7 with (fail)
 by_cases h5 : x < 5
 ·have d2 := HH.out.c2
  obtain ⟨ad', e', hl⟩ := HI.out (bl.length - 1) (by omega)
  cases e'
  rw [add0] at hl
  have hin := HU.out (bl.getD (bl.length - 1) 0) (by rw [List.getD_eq_getElem?_getD, List.getElem?_eq_getElem (by omega)]; simp)
  have hme : bl.getD (bl.length - 1) 0 ∈ bl := by rw [List.getD_eq_getElem?_getD, List.getElem?_eq_getElem (by omega)]; simp
  generalize bl.getD (bl.length - 1) 0 = r at hl hin hme
  go_upto_region 3 with (fail)
  go_quiet (fail)
  go_wp2_with fail
  go_ret
  have hgd : w1.grownBy (w1.drewN nq) none := drewN_grown w1 nq
  exact ⟨r, rfl, hin, hme, HH.out.g hgd, HG.out.trans (Chg.of hgd)⟩
 ·go_upto_region 4 with (fail)
  have TK := lh fun w9 (hSw : (fun wr => Mk wr mp p (.slice (some ⟨g, 0, none⟩) bl.length c) nb ∧ Ints .u64 wr (some ⟨g, 0, none⟩) bl ∧ Chg (fun i => i = mp) w wr) w9) => hSw.1.c2
  refine wp_region_late (fun wr => Mk wr mp p (.slice (some ⟨g, 0, none⟩) bl.length c) nb ∧ Ints .u64 wr (some ⟨g, 0, none⟩) bl ∧ Chg (fun i => i = mp) w wr) [] (by as_aux_lemma => kernel_rfl) ?_
  have hgd := gdrew (gR w1 none)
  have hS : (fun wr => Mk wr mp p (.slice (some ⟨g, 0, none⟩) bl.length c) nb ∧ Ints .u64 wr (some ⟨g, 0, none⟩) bl ∧ Chg (fun i => i = mp) w wr) w1.drew := ⟨HH.out.g hgd, HI.out.kept hgd, HG.out.trans (Chg.of hgd)⟩
  clear hgd HH HI HG
  generalize w1.drew = w2 at hS ⊢
  refine pM 0 ?_
  simp only [zz]
  refine pM 1 ?_
  simp only [zz]
  refine pM 2 ?_
  simp only [zz]
  refine pM 4 ?_
  simp only [zz]
  refine pM 5 ?_
  simp only [zz]
  refine pM 6 ?_
  simp only [zz]
  refine pM 7 ?_
  simp only [zz]
  refine tM 3 ?_
  simp only [zz]
  refine tM 8 ?_
  simp only [zz]
  refine pM 9 ?_
  simp only [zz]
  refine rM 10 fun K hK => ?_
  go_simp
  refine (mnext_calls hS.1 ⟨_, _, _, rfl⟩ (n := (bl.length : Int)) (by omega)).mono ?_
  rintro e w3 ⟨y, rfl, hy0, hy1, hm, hg⟩
  have hc : Chg (fun i => i = mp) w2 w3 := Chg.one hg rfl
  have hS2 : (fun wr => _) w3 := And.intro hm (And.intro (hS.2.1.chg hc (fun ad e => by cases e; exact hgm)) (hS.2.2.trans hc))
  obtain ⟨k, rfl⟩ : ∃ k : Nat, y = (k : Int) := ⟨y.toNat, by omega⟩
  clear hm hg hc
  refine hK.out _ _ (.inl (fun _ => hS2)) ?_
  replace hS := hS2; clear hK K hS2
  try simp only [zz]
  refine pM 11 ?_
  simp only [zz]
  refine rM 12 fun K hK => ?_
  obtain ⟨ad', e', hl⟩ := hS.2.1 k (by omega)
  cases e'
  rw [add0] at hl
  have hin := HU.out (bl.getD k 0) (by rw [List.getD_eq_getElem?_getD, List.getElem?_eq_getElem (by omega)]; simp)
  have hme : bl.getD k 0 ∈ bl := by rw [List.getD_eq_getElem?_getD, List.getElem?_eq_getElem (by omega)]; simp
  generalize bl.getD k 0 = r at hl hin hme
  go_simp
  have hS2 := hS
  refine hK.out _ _ (.inl (fun _ => hS2)) ?_
  replace hS := hS2; clear hK K hS2
  try simp only [zz]
  refine pM 13 ?_
  simp only [zz]
  refine dM ?_ _
  go_wp2_with fail
  go_ret
  exact ⟨r, rfl, hin, hme, hS.1, hS.2.2⟩
end
theorem own_slice2 {w : World} {base : Nat} {e : TypeId} {size n : Nat} {v : Value} {xs : List Value} (h : w.ownsRow base e size v n xs) : ∃ a k, v = .slice a n k ∧ (0 < n → ∃ g, a = some ⟨g, 0, none⟩) ∧ ∀ ad, a = some ad → ∃ g, ad = ⟨g, 0, none⟩ := by
 rcases h.2 with ⟨rfl, hn⟩ | ⟨g, cap, cur, rfl, _⟩
 ·exact ⟨none, 0, by rw [hn], fun h => by omega, fun ad e => by cases e⟩
 ·exact ⟨_, _, rfl, fun _ => ⟨g, rfl⟩, fun ad e => ⟨g, by cases e; rfl⟩⟩
theorem row_kept {w w' : World} {base n b : Nat} {e T : TypeId} {size : Nat} {v : Value} {xs : List Value} {cs : Array Value} (h : w.ownsRow base e size v n xs) (hc : Chg (fun i => i = b) w w') (hb : w.heap[b]? = some (.cells cs T (0, 0))) (hT : T ≠ e) : w'.ownsRow base e size v n xs :=
 rowChg h hc (fun k hk e => by
  obtain ⟨cur, hcur⟩ := ownsRow_ty h hk
  rw [e, hb] at hcur
  cases hcur
  exact hT rfl)
theorem row_apart {w w' : World} {base n n2 base2 : Nat} {e T : TypeId} {size size2 : Nat} {v v2 : Value} {xs xs2 : List Value} (h : w.ownsRow base e size v n xs) (h2 : w.ownsRow base2 T size2 v2 n2 xs2) (hg : w.grownBy w' v2.ownBlock) (hT : T ≠ e) : w'.ownsRow base e size v n xs := by
 cases hb : v2.ownBlock with
 | none => rw [hb] at hg; exact ownsRow_g h hg
 | some b =>
  rw [hb] at hg
  obtain ⟨cur, hcur⟩ := ownsRow_ty h2 hb
  exact row_kept h (Chg.one hg rfl) hcur hT
theorem who_row {w : World} {base c : Nat} {a : Option Addr} {xs : List Int} (h : w.ownsRow base 3 1 (.slice a xs.length c) xs.length (xs.map (Value.int .i64))) : Ints .i64 w a xs ∧ ∀ ad, a = some ad → (base ≤ ad.block ∧ ad.block < w.heap.size) ∧ ad.spot = none := by
 obtain ⟨a2, c2, e, h1, h2⟩ := own_slice2 h
 cases e
 refine ⟨?_, fun ad e => ?_⟩
 ·rcases Nat.eq_zero_or_pos xs.length with h0 | h0
  ·intro i hi; omega
  ·obtain ⟨g, rfl⟩ := h1 h0
   exact ints_of_own h
 ·obtain ⟨g, rfl⟩ := h2 ad e
  subst e
  exact ⟨h.lt g rfl, rfl⟩
theorem res_cell {fn : Func} {p : Tmp} {ty : TypeId} {P : Program} {W : World} {tmps : Array Value} {r : Nat} {cs : Array Value} (h : fn.results = #[.cell p ty]) (ht : tmps[p]?.getD undef = .pointer (some ⟨r, 0, none⟩))
  (hl : (loadVar ty ⟨r, 0, none⟩).run P W = .ok (.agg cs) W) : (results fn tmps).run P W = .ok (.agg cs) W := by
 simp only [results, h]
 simp [ht, asAddr, hl]
theorem wpList_store_blk {P : Program} {ops : Array Oper} {rest : List Oper} {o : Oper} {a : Act} {w : World} {Q : Exit → Act → World → Prop} {g : Nat} {old : Array Value} {T ty : TypeId} (h : Blk w g old T) (hgd : o.guard = none)
  (cells : Array Value) (ho : ∃ x y, o.op = .store ty x y ∧ a.eval x = .pointer (some ⟨g, 0, none⟩) ∧ a.eval y = .agg cells) (hi : (P.info? ty).map (·.size) = some cells.size) (hold : old.size = cells.size) (h1 : cells.all (·.oneCell') = true)
  (hK : ∀ w', Blk w' g cells T → w.grownBy w' (some g) → wpList P ops Q rest (a.put o.dst undef) w') : wpList P ops Q (o :: rest) a w := by
 obtain ⟨x, y, ho, hx, hy⟩ := ho
 exact wpList_store_row hgd ty x y ho g cells hx hy T old h hi hold h1 (hK _ (setRow_heap w g old cells T (0, 0) h) ⟨rfl, rfl, rfl, by simp, fun k _ hk => setRow_other w g k cells (fun e => hk (by rw [e]))⟩)
def vtC (sl hd se sr te tr : Int) (who : Value) : Array Value := #[.int .i64 sl, .int .u64 hd, .int .i64 se, .int .u64 sr, .int .i64 te, .int .u64 tr, who]
structure VS (w0 w : World) (mp p q qc : Nat) (vb : Value) (nb : Option Nat) (cf vc : Array Value) : Prop where
 mm : Mk w mp p vb nb
 b0 : Blk w q (vtC 0 0 0 0 0 0 (.slice none 0 0)) 64
 b1 : Blk w qc cf 36
 b2 : Blk w (qc + 1) vc 64
 chg : Chg (fun i => i = mp) w0 w
section
variable {w0 w w' : World} {mp p q qc base : Nat} {vb : Value} {nb : Option Nat} {cf vc : Array Value}
theorem VS.g (h : VS w0 w mp p q qc vb nb cf vc) (hg : w.grownBy w' none) : VS w0 w' mp p q qc vb nb cf vc := ⟨h.mm.g hg, h.b0.g hg, h.b1.g hg, h.b2.g hg, h.chg.trans (Chg.of hg)⟩
theorem VS.num (h : VS w0 w mp p q qc vb nb cf vc) (hm : Mk w' mp p vb nb) (hc : Chg (fun i => i = mp) w w') (h1 : mp < q) (h2 : q < qc) : VS w0 w' mp p q qc vb nb cf vc :=
 ⟨hm, hc.blk h.b0 (by omega), hc.blk h.b1 (by omega), hc.blk h.b2 (by omega), h.chg.trans hc⟩
theorem VS.own (h : VS w0 w mp p q qc vb nb cf vc) {b : Nat} (hg : w.grownBy w' (some b)) (hb : w0.heap.size ≤ b) (h1 : b ≠ mp) (h2 : b ≠ q) (h3 : b ≠ qc) (h4 : b ≠ qc + 1) (hn : ∀ k, nb = some k → k < w0.heap.size) : VS w0 w' mp p q qc vb nb cf vc := by
 have hc : Chg (fun i => i = b) w w' := Chg.one hg rfl
 exact ⟨h.mm.chg hc (Ne.symm h1) (fun k hk e => by have := hn k hk; omega), hc.blk h.b0 (Ne.symm h2), hc.blk h.b1 (Ne.symm h3), hc.blk h.b2 (Ne.symm h4), h.chg.then hc (fun i e => .inr (by omega))⟩
theorem VS.row (h : VS w0 w mp p q qc vb nb cf vc) {who : Value} {n : Nat} {xs : List Value} (hr : w.ownsRow w0.heap.size 3 1 who n xs) (hg : w.grownBy w' who.ownBlock) (hn : ∀ k, nb = some k → k < w0.heap.size) : VS w0 w' mp p q qc vb nb cf vc := by
 cases hb : who.ownBlock with
 | none =>
  rw [hb] at hg
  exact h.g hg
 | some b =>
  rw [hb] at hg
  obtain ⟨cur, hcur⟩ := ownsRow_ty hr hb
  have hno : ∀ {k : Nat} {cs : Array Value} {T : TypeId}, Blk w k cs T → T ≠ 3 → b ≠ k := fun hk hT e => by
   subst e
   unfold Blk at hk
   rw [hk] at hcur
   cases hcur
   exact hT rfl
  exact h.own hg (hr.lt b hb).1 (h.mm.ne hcur (by decide)) (hno h.b0 (by decide)) (hno h.b1 (by decide)) (hno h.b2 (by decide)) hn
theorem VS.put (h : VS w0 w mp p q qc vb nb cf vc) {vc' : Array Value} (hb : Blk w' (qc + 1) vc' 64) (hg : w.grownBy w' (some (qc + 1))) (h0 : w0.heap.size ≤ q) (h1 : mp < q) (h2 : q < qc) (hn : ∀ k, nb = some k → k < w0.heap.size) : VS w0 w' mp p q qc vb nb cf vc' := by
 have hc : Chg (fun i => i = qc + 1) w w' := Chg.one hg rfl
 exact ⟨h.mm.chg hc (by omega) (fun k hk e => by have := hn k hk; omega), hc.blk h.b0 (by omega), hc.blk h.b1 (by omega), hb, h.chg.then hc (fun i e => .inr (by omega))⟩
end
section
variable {w : World} {I : Ids} {σ : St} {N mp base : Nat} {vb : Value} {nb : Option Nat} {bl : List Int}
set_option maxHeartbeats 8000000 in
theorem vote_calls (h : StoreAt w I σ) (hI : Inv σ N) (hb6 : σ.bs.length = 6) (hm : Mk w mp I.p vb nb) (hbl : Bls w base vb bl) (hx : I.ex mp) (hnb : ∀ k, nb = some k → k < w.heap.size) {hd sl : Int} (hh : inU hd) (hs0 : 0 ≤ sl) (hs1 : sl ≤ 1099511627776) :
  Calls Tryz.prog 34 #[.pointer (some ⟨mp, 0, none⟩), .int .u64 hd, .int .i64 sl] w fun e w' => ∃ v vw vc, e = .returned (vtV v vw vc) ∧ VtB v ∧ w'.ownsRow w.heap.size 3 1 (.slice vw v.who.length vc) v.who.length (v.who.map (Value.int .i64)) ∧
   Mk w' mp I.p vb nb ∧ Chg (fun i => i = mp) w w' := by
 have HH := lh h
 have HM := lh hm
 have HBL := lh hbl
 have hpl := h.blk.lt
 have hml := hm.lt
 have HI := lh hI
 have HX := lh hx
 clear hI hx
 have h0 := h
 have HBL0 := lh (And.intro hbl (hbl.ne hm))
 clear h hm hbl
 go_enter Tryz.func34, Tryz.ntmps34
 go_upto_region 1 with (fail)
 refine nmC1 ?_
 intro W b0 hz hg
 obtain ⟨q, hq_q⟩ : ∃ q, q = w.heap.size := ⟨_, rfl⟩
 rw [← hq_q] at b0 hz hpl hml ⊢
 have HQ_q := lh hq_q
 clear hq_q
 have HB0 := lh b0
 replace HH := lh (HH.out.g hg)
 replace HM := lh (HM.out.g hg)
 replace HBL := lh (HBL.out.g hg)
 have HG := lh (Chg.of (S := fun i => i = mp) hg)
 have m0 := HM.out.c0
 have s0 := HH.out.s0
 have s1 := HH.out.s1
 have s2 := HH.out.s2
 clear b0 hg hz
 have hN1 := HI.out.wf.may.l1
 have hS1 := HI.out.wf.may.s1
 have hS2 := HI.out.wf.may.s2
 have HB6 := lh hb6
 obtain ⟨n, hn⟩ : ∃ n, n = σ.bs.length := ⟨_, rfl⟩
 rw [← hn] at s0 hN1
 have hn6 : n ≤ 6 := by omega
 clear hb6 hn
 go_upto_region 3 with (fail)
 clear m0 s0 s1 s2
 refine nmC2 ?_
 intro W2 b1 b2 hz hg
 have hqW : q < W.heap.size := HB0.out.lt
 have hmW : mp < W.heap.size := HM.out.lt
 obtain ⟨qc, hq_qc⟩ : ∃ q, q = W.heap.size := ⟨_, rfl⟩
 rw [← hq_qc] at b1 b2 hz hqW hmW ⊢
 have HQ_qc := lh hq_qc
 clear hq_qc
 have HB1 := lh b1
 have HB2 := lh b2
 replace HH := lh (HH.out.g hg)
 replace HM := lh (HM.out.g hg)
 replace HBL := lh (HBL.out.g hg)
 replace HB0 := lh (HB0.out.g hg)
 replace HG := lh (HG.out.trans (Chg.of hg))
 clear b1 b2 hg hz
 have d1 := HB1.out.at 1
 go_wp2_with (go_at_call 47; refine (eof_calls sl σ.S _ (by omega) (by omega)).mono ?_; rintro e wg ⟨rfl, rfl⟩)
 clear d1
 obtain ⟨ep, hep⟩ : ∃ ep, ep = eOf sl σ.S := ⟨_, rfl⟩
 have hst : eStart ep σ.S ≤ 9223372036854775807 := by
  rw [hep]
  exact eStart_le (by have := eOf_le sl σ.S; omega) hS2
 rw [← hep]
 clear hep
 have HST := lh hst
 obtain ⟨cf, hcf⟩ : ∃ cf : Array Value, cf = #[.slice I.ba n I.bc, .int .i64 σ.S, .int .i64 σ.B] := ⟨_, rfl⟩
 have hvs : VS w W2 mp I.p q qc vb nb cf (vtC sl hd 0 0 0 0 (.slice none 0 0)) := ⟨HM.out, HB0.out, by rw [hcf]; exact HB1.out, HB2.out, HG.out⟩
 have HVS := lh hvs
 have hqw : w.heap.size ≤ q := Nat.le_of_eq HQ_q.out.symm
 have H0 := lh (show StoreAt w I σ from h0)
 have HCF := lh hcf
 have HNB := lh hnb
 clear hcf hnb
 clear hst hvs HH HM HB0 HB1 HB2 HG
 refine wp_region_late (fun wr => VS w wr mp I.p q qc vb nb cf (vtC sl hd 0 0 0 0 (.slice none 0 0)) ∧ StoreAt wr I σ) [16] (by as_aux_lemma => kernel_rfl) ?_
 have hgd := gdrew (gR W2 none)
 have hS : (fun wr => VS w wr mp I.p q qc vb nb cf (vtC sl hd 0 0 0 0 (.slice none 0 0)) ∧ StoreAt wr I σ) W2.drew := by
  have h := HVS.out.g hgd
  exact ⟨h, H0.out.exch h.chg (fun i e => by rw [e]; exact HX.out)⟩
 clear hgd HVS
 generalize W2.drew = w2 at hS ⊢
 refine pM 0 ?_
 simp only [zz]
 refine pM 1 ?_
 simp only [zz]
 refine pM 2 ?_
 simp only [zz]
 refine pM 3 ?_
 simp only [zz]
 refine pM 8 ?_
 simp only [zz]
 refine pM 9 ?_
 simp only [zz]
 refine pM 10 ?_
 simp only [zz]
 refine wM 4 ?_ ?_ hS ?_; rotate_left; · intro w hSw; have m0 := hSw.1.mm.c0; have s3 := hSw.2.s3; have d1 : w.cell? ⟨qc, 1, none⟩ = some (.int .i64 σ.S) := (by have h := hSw.1.b1; rw [HCF.out] at h; exact h.at 1); go_simp; try with_reducible rfl
 simp only [zz]
 refine pM 5 ?_
 simp only [zz]
 refine pM 6 ?_
 simp only [zz]
 refine wM 7 ?_ ?_ hS ?_; rotate_left; · intro w hSw; have m0 := hSw.1.mm.c0; have s3 := hSw.2.s3; have d1 : w.cell? ⟨qc, 1, none⟩ = some (.int .i64 σ.S) := (by have h := hSw.1.b1; rw [HCF.out] at h; exact h.at 1); go_simp; try with_reducible rfl
 simp only [zz]
 refine wM 11 ?_ ?_ hS ?_; rotate_left; · intro w hSw; have m0 := hSw.1.mm.c0; have s3 := hSw.2.s3; have d1 : w.cell? ⟨qc, 1, none⟩ = some (.int .i64 σ.S) := (by have h := hSw.1.b1; rw [HCF.out] at h; exact h.at 1); go_simp; try with_reducible rfl
 simp only [zz]
 refine rM 12 fun K hK => ?_
 go_simp
 refine (estart_calls ep σ.S _ HST.out).mono ?_
 rintro e w3 ⟨rfl, rfl⟩
 have hS2 := hS
 refine hK.out _ _ (.inl (fun _ => hS2)) ?_
 replace hS := hS2; clear hK K hS2
 try simp only [zz]
 refine rM 13 fun K hK => ?_
 go_simp
 refine (tat_calls hS.2.tree HI.out.wf.tree hh _).mono ?_
 rintro e w4 ⟨rfl, hg⟩
 have hS2 : (fun wr => _) w4 := And.intro (hS.1.g hg) (hS.2.g hg)
 generalize atT σ.F σ.f hd (eStart ep σ.S) = tr
 clear hg
 refine hK.out _ _ (.inl (fun _ => hS2)) ?_
 replace hS := hS2; clear hK K hS2
 try simp only [zz]
 refine pM 14 ?_
 simp only [zz]
 refine pM 15 ?_
 simp only [zz]
 refine rM 16 fun K hK => ?_
 have hb := hS.1.b2
 have e4 : w4.cell? ⟨qc + 1, 4, none⟩ = some (.int .i64 0) := hb.at 4
 have e5 : w4.cell? ⟨qc + 1, 5, none⟩ = some (.int .u64 0) := hb.at 5
 have f4 := hb.fr 4
 have f5 := hb.fr 5
 go_simp
 refine hK.out _ _ (.inr (by decide)) ?_
 clear hK K
 try simp only [zz]
 refine dM ?_ _
 obtain ⟨t1, _, t3⟩ := sto2 4 5 (.int .i64 ep) (.int .u64 tr) hS.1.b2
 have hb2 : Blk _ (qc + 1) (vtC sl hd 0 0 ep tr (.slice none 0 0)) 64 := t1
 have hvs := hS.1.put hb2 t3 hqw hml hqW HNB.out
 clear hS t1 t3 hb2
 generalize (w4.setCell ⟨qc + 1, 4, none⟩ (.int .i64 ep)).setCell ⟨qc + 1, 5, none⟩ (.int .u64 tr) = w5 at hvs ⊢
 have HVS := lh hvs
 have hst := H0.out.exch hvs.chg (fun i e => by rw [e]; exact HX.out)
 have m0 := hvs.mm.c0
 have s7 := hst.s7
 have s8 := hst.s8
 have e2 : w5.cell? ⟨qc + 1, 2, none⟩ = some (.int .i64 0) := hvs.b2.at 2
 have e3 : w5.cell? ⟨qc + 1, 3, none⟩ = some (.int .u64 0) := hvs.b2.at 3
 have f2 := hvs.b2.fr 2
 have f3 := hvs.b2.fr 3
 clear hvs hst
 go_upto_region 6 with (fail)
 obtain ⟨t1, _, t3⟩ := sto2 2 3 (.int .i64 σ.je) (.int .u64 σ.jr) HVS.out.b2
 have hb2 : Blk _ (qc + 1) (vtC sl hd σ.je σ.jr ep tr (.slice none 0 0)) 64 := t1
 have hvs := HVS.out.put hb2 t3 hqw hml hqW HNB.out
 clear HVS t1 t3 hb2 m0 s7 s8 e2 e3 f2 f3
 generalize (w5.setCell ⟨qc + 1, 2, none⟩ (.int .i64 σ.je)).setCell ⟨qc + 1, 3, none⟩ (.int .u64 σ.jr) = w6 at hvs ⊢
 have HVS := lh hvs
 clear hvs
 go_wp2_with fail
 obtain ⟨vg, vcap, hvf, _⟩ := HBL.out.form
 have HVF : Hid (∃ a n c, vb = .slice a n c) := lh ⟨_, _, _, hvf⟩
 clear hvf
 refine (mnext_calls HVS.out.mm HVF.out (n := 64) (by omega)).mono ?_
 rintro e w7 ⟨x, rfl, hx0, hx1, hm, hg⟩
 have hvs := HVS.out.num hm (Chg.one hg rfl) hml hqW
 clear HVS hm hg
 have HVS := lh hvs
 clear hvs
 go_wp2_with fail
 refine (mnext_calls HVS.out.mm HVF.out (n := 4) (by omega)).mono ?_
 rintro e w8 ⟨y, rfl, hy0, hy1, hm, hg⟩
 have hvs := HVS.out.num hm (Chg.one hg rfl) hml hqW
 clear HVS hm hg
 have HVS := lh hvs
 clear hvs
 go_upto_if 54 with (fail)
 go_cut [10] (fun s10 wx => ∃ k : Int, s10 = .int .i64 k ∧ w8.grownBy wx none)
 case first =>
  by_cases h0 : 0 < y
  ·go_wp2_with fail
   go_meet
   exact ⟨_, rfl, gR _ _⟩
  ·go_wp2_with fail
   go_meet
   exact ⟨_, rfl, gR _ _⟩
 case rest =>
  obtain ⟨k, rfl, hg⟩ := hcut
  replace HVS := lh (HVS.out.g hg)
  clear hg hx0 hx1 hy0 hy1
  have d0 : wc.cell? ⟨qc, 0, none⟩ = some (.slice I.ba n I.bc) := (by have h := HVS.out.b1; rw [HCF.out] at h; exact h.at 0)
  go_wp2_with fail
  clear d0
  go_loopw [61] (fun v61 wr => ∃ (j : Nat), v61 = .int .i64 (j : Int) ∧ j ≤ n ∧ ∃ (ks : List Int) (who : Value), VS w wr mp I.p q qc vb nb cf (vtC sl hd σ.je σ.jr ep tr who) ∧ wr.ownsRow w.heap.size 3 1 who ks.length (ks.map (Value.int .i64)) ∧ ks.length ≤ j) (fun v61 _ => n - (intOf v61).toNat)
  case atStart => exact ⟨0, rfl, by omega, [], _, HVS.out, World.ownsRow_nil _ _ _ _, by simp⟩
  case round =>
   obtain ⟨j, rfl, hj, ks, who, hvs, hrow, hkl⟩ := hrel
   clear HVS
   have HVS := lh hvs
   have HROW := lh hrow
   clear hvs hrow
   by_cases hlt : j < n
   ·go_upto_if 68 with (fail)
    generalize (bits BinOp.and IntKind.i64 k (wrap64 (2 ^ j)) != 0) = B
    cases B
    ·go_wp2_with fail
     exact ⟨⟨j + 1, by simp, by omega, ks, who, HVS.out, HROW.out, by omega⟩, by simp [intOf]; omega⟩
    ·obtain ⟨i0, hi0⟩ := elem_i64
     have HI0 := lh hi0
     clear hi0
     have e6 : wr.cell? ⟨qc + 1, 6, none⟩ = some who := HVS.out.b2.at 6
     have hsz := HVS.out.chg.size
     go_upto_region 13 with (fail)
     go_wp2_with (at_builtin; refine wpList_push rfl _ _ 62 rfl w.heap.size 3 i0 (.int .i64 0) 1 8 Tryz.underlying62 HI0.out rfl (by decide) _ ks.length (ks.map (Value.int .i64)) rfl HROW.out rfl rfl (by simp [Value.oneCell']) (by unfold maxLen; omega) (by omega) hsz ?_; intro v6 w6 h6 hg6; obtain ⟨a6, c6, rfl, _⟩ := own_slice h6; have hv6 := HVS.out.row HROW.out hg6 HNB.out; have e6 : w6.cell? ⟨qc + 1, 6, none⟩ = some who := hv6.b2.at 6; have f6 := hv6.b2.fr 6; have H6 := lh (And.intro h6 hv6); clear h6 hg6 hv6)
     obtain ⟨t1, _, t3⟩ := sto1 6 (.slice a6 (ks.length + 1) c6) H6.out.2.b2
     have hb2 : Blk _ (qc + 1) (vtC sl hd σ.je σ.jr ep tr (.slice a6 (ks.length + 1) c6)) 64 := t1
     have hvs := H6.out.2.put hb2 t3 hqw hml hqW HNB.out
     have hrow := H6.out.1.kept t3 (.inr (fun e => by
      obtain ⟨cur, hcur⟩ := ownsRow_ty H6.out.1 e
      have h := H6.out.2.b2
      unfold Blk at h
      rw [h] at hcur
      cases hcur))
     refine ⟨⟨j + 1, by simp, by omega, ks ++ [(j : Int)], _, hvs, ?_, by simp; omega⟩, by simp [intOf]; omega⟩
     simpa using hrow
   ·have hje : j = n := by omega
    subst hje
    go_wp2_with fail
    refine (mnext_calls HVS.out.mm HVF.out (n := 12) (by omega)).mono ?_
    rintro e w9 ⟨z, rfl, hz0, hz1, hm, hg⟩
    have hc : Chg (fun i => i = mp) wr w9 := Chg.one hg rfl
    have hvs := HVS.out.num hm hc hml hqW
    have hrow := rowChg HROW.out hc (fun b hb e => by
     obtain ⟨cur, hcur⟩ := ownsRow_ty HROW.out hb
     exact HVS.out.mm.ne hcur (by decide) e)
    clear HVS HROW hm hg hc
    have HVS := lh hvs
    have HROW := lh hrow
    clear hvs hrow
    go_upto_block 2 with (fail)
    go_cut [] (fun wx => ∃ se sr te tr, VS w wx mp I.p q qc vb nb cf (vtC sl hd se sr te tr who) ∧ wx.ownsRow w.heap.size 3 1 who ks.length (ks.map (Value.int .i64)))
    case first => as_aux_lemma =>
     have hno : ∀ (wz : World) (b : Nat), VS w wz mp I.p q qc vb nb cf (vtC sl hd σ.je σ.jr ep tr who) → wz.ownsRow w.heap.size 3 1 who ks.length (ks.map (Value.int .i64)) → who.ownBlock = some b → b ≠ qc + 1 := fun wz b hv hr hb e => by
      obtain ⟨cur, hcur⟩ := ownsRow_ty hr hb
      have h := hv.b2
      unfold Blk at h
      rw [e, h] at hcur
      cases hcur
     have HNO := lh hno
     clear hno
     by_cases z10 : z = 10
     ·subst z10
      go_wp2_with fail
      refine (mnext_calls HVS.out.mm HVF.out (n := 3) (by omega)).mono ?_
      rintro e w10 ⟨y3, rfl, hy0, hy1, hm, hg⟩
      have hc : Chg (fun i => i = mp) w9 w10 := Chg.one hg rfl
      have hvs := HVS.out.num hm hc hml hqW
      have hrow := rowChg HROW.out hc (fun b hb e => by
       obtain ⟨cur, hcur⟩ := ownsRow_ty HROW.out hb
       exact HVS.out.mm.ne hcur (by decide) e)
      clear HVS HROW hm hg hc
      have e2 : w10.cell? ⟨qc + 1, 2, none⟩ = some (.int .i64 σ.je) := hvs.b2.at 2
      have e3 : w10.cell? ⟨qc + 1, 3, none⟩ = some (.int .u64 σ.jr) := hvs.b2.at 3
      have f2 := hvs.b2.fr 2
      have f3 := hvs.b2.fr 3
      have HVS := lh hvs
      have HROW := lh hrow
      clear hvs hrow
      go_wp2_with fail
      go_meet
      obtain ⟨t1, _, t3⟩ := sto2 2 3 (.int .i64 y3) (.int .u64 1) HVS.out.b2
      have hb2 : Blk _ (qc + 1) (vtC sl hd y3 1 ep tr who) 64 := t1
      exact ⟨_, _, _, _, HVS.out.put hb2 t3 hqw hml hqW HNB.out, HROW.out.kept t3 (.inr (fun e => HNO.out _ _ HVS.out HROW.out e rfl))⟩
     ·by_cases z11 : z = 11
      ·subst z11
       clear z10
       go_wp2_with fail
       refine (mblock_calls HVS.out.mm (HBL0.out.1.chg HVS.out.chg HBL0.out.2)).mono ?_
       rintro e w10 ⟨r, rfl, hr, _, hm, hc⟩
       have hvs := HVS.out.num hm hc hml hqW
       have hrow := rowChg HROW.out hc (fun b hb e => by
        obtain ⟨cur, hcur⟩ := ownsRow_ty HROW.out hb
        exact HVS.out.mm.ne hcur (by decide) e)
       clear HVS HROW hm hc
       have e5 : w10.cell? ⟨qc + 1, 5, none⟩ = some (.int .u64 tr) := hvs.b2.at 5
       have f5 := hvs.b2.fr 5
       have HVS := lh hvs
       have HROW := lh hrow
       clear hvs hrow
       go_wp2_with fail
       go_meet
       obtain ⟨t1, _, t3⟩ := sto1 5 (.int .u64 r) HVS.out.b2
       have hb2 : Blk _ (qc + 1) (vtC sl hd σ.je σ.jr ep r who) 64 := t1
       exact ⟨_, _, _, _, HVS.out.put hb2 t3 hqw hml hqW HNB.out, HROW.out.kept t3 (.inr (fun e => HNO.out _ _ HVS.out HROW.out e rfl))⟩
      ·have z10' : (z == 10) = false := by simp [z10]
       have z11' : (z == 11) = false := by simp [z11]
       clear z10 z11
       go_wp2_with fail
       go_meet
       exact ⟨_, _, _, _, HVS.out, HROW.out⟩
    case rest =>
     obtain ⟨se, sr, te, tr2, hvs, hrow⟩ := hcut
     clear HVS HROW
     obtain ⟨wa, wcap, rfl, _, _⟩ := own_slice2 hrow
     have HVS := lh hvs
     have HROW := lh hrow
     clear hvs hrow
     go_wp2_with (first
      | refine wpList_load_blk (off := 0) HVS.out.b2 rfl _ rfl rfl _ Tryz.underlying64 rfl (vtC sl hd se sr te tr2 (.slice wa ks.length wcap)) (by as_aux_lemma => kernel_rfl) rfl ?_
      | (refine wpList_store_blk HVS.out.b0 rfl (vtC sl hd se sr te tr2 (.slice wa ks.length wcap)) ⟨_, _, rfl, rfl, rfl⟩ (by as_aux_lemma => kernel_rfl) rfl (by simp [vtC, Value.oneCell']) ?_; intro wz hbz hgz; have HBZ := lh (And.intro hbz hgz); clear hbz hgz))
     have hcz : Chg (fun i => i = q) wc wz := Chg.one HBZ.out.2 rfl
     have hrz := row_kept HROW.out hcz HVS.out.b0 (by decide)
     refine bodyPost_ret (res_cell (cs := vtC sl hd se sr te tr2 (.slice wa ks.length wcap)) (r := q) rfl rfl (run_loadVar_blk (off := 0) HBZ.out.1 _ Tryz.underlying64 rfl _ (by as_aux_lemma => kernel_rfl) rfl)) rfl ?_
     exact ⟨⟨sl, hd, se, sr, te, tr2, ks⟩, wa, wcap, rfl, ⟨hh, hs1, by show ks.length ≤ 1000; omega⟩, hrz, HVS.out.mm.chg hcz (by omega) (fun k hk e => by have := HNB.out k hk; omega), HVS.out.chg.then hcz (fun i e => .inr (by omega))⟩
end
end Go.Proofs.YtndfpmboanohcaaGreatDoor
