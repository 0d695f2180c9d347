/- Contract of (*store.Store).slash. -/
import Derived.Test.YtndfpmboanohcaaGreatDoorAtt
namespace Go.Proofs.YtndfpmboanohcaaGreatDoor
set_option maxRecDepth 100000
open Go.RowKit Go.Maps SkipPure
def banV (V : Nat → Ent) (i : Nat) : Nat → Ent := if (V i).b then V else vset V i { V i with b := true }
section
variable {w : World} {g n : Nat} {V : Nat → Ent}
theorem ban_any (h : VAt w g n V) (hn : n ≤ 4096) {i : Nat} (hi : i < n) :
  Calls Tryz.prog 60 #[.slice (some ⟨g, 0, none⟩) n n, .int .i64 i] w fun z w' => z = .returned (.bool (!(V i).b)) ∧ VAt w' g n (banV V i) ∧ w.grownBy w' (some g) := by
 unfold banV
 cases hb : (V i).b with
 | true =>
  refine (ban_no h hn hi hb).mono ?_
  rintro z w' ⟨rfl, rfl⟩
  exact ⟨rfl, h, gR _ _⟩
 | false =>
  refine (ban_yes h hn hi hb).mono ?_
  rintro z w' ⟨rfl, h1, h2⟩
  exact ⟨rfl, h1, h2⟩
end
theorem banStep_len (p : (Nat → Ent) × List Cg) (k : Int) : (banStep p k).2.length ≤ p.2.length + 1 := by
 unfold banStep
 split <;> simp
theorem banAll_len : ∀ (ks : List Int) (V : Nat → Ent) (cs : List Cg), (banAll V cs ks).2.length ≤ cs.length + ks.length
 | [], _, _ => by simp [banAll]
 | k :: ks, V, cs => by
  have h1 := banStep_len (V, cs) k
  have h2 := banAll_len ks (banStep (V, cs) k).1 (banStep (V, cs) k).2
  have e1 : banAll V cs (k :: ks) = banAll (banStep (V, cs) k).1 (banStep (V, cs) k).2 ks := rfl
  rw [e1, List.length_cons]
  simp only at h1
  omega
theorem bothR_mem (us vs : List Int) : ∀ j, j ≤ us.length → ∀ k ∈ bothR us vs j, k ∈ us
 | 0, _, k, h => by simp [bothR] at h
 | j + 1, hj, k, h => by
  unfold bothR at h
  split at h
  ·rcases List.mem_append.1 h with h | h
   ·exact bothR_mem us vs j (by omega) k h
   ·rw [List.mem_singleton.1 h, List.getD_eq_getElem?_getD, List.getElem?_eq_getElem (by omega)]
    simp
  ·exact bothR_mem us vs j (by omega) k h
theorem shownF_mem {N : Nat} {S : Int} {a b : Vt} {k : Int} (h : k ∈ shownF N S a b) : 0 ≤ k ∧ k < N := by
 unfold shownF at h
 split at h
 ·rename_i hc
  simp only [Bool.and_eq_true] at hc
  unfold bothF at h
  rw [List.mem_mergeSort] at h
  have h1 := bothR_mem _ _ _ (Nat.le_refl _) k h
  obtain ⟨j, hj, e⟩ := List.getElem_of_mem h1
  have h2 := rightF_who hc.1.1 hj
  rw [List.getD_eq_getElem?_getD, List.getElem?_eq_getElem hj] at h2
  simp only [Option.getD_some] at h2
  omega
 ·cases h
theorem shownF_len {N : Nat} {S : Int} {a b : Vt} : (shownF N S a b).length ≤ a.who.length := by
 unfold shownF
 split
 ·unfold bothF
  rw [List.length_mergeSort]
  exact bothR_len _ _ _
 ·simp
def prC (a b : Vt) (aw bw : Option Addr) (ac bc : Nat) : Array Value := #[.int .i64 a.sl, .int .u64 a.hd, .int .i64 a.se, .int .u64 a.sr, .int .i64 a.te, .int .u64 a.tr, .slice aw a.who.length ac,
 .int .i64 b.sl, .int .u64 b.hd, .int .i64 b.se, .int .u64 b.sr, .int .i64 b.te, .int .u64 b.tr, .slice bw b.who.length bc]
section
variable {w : World} {I : Ids} {σ : St} {base : Nat} {cs : List Cg}
set_option maxHeartbeats 8000000 in
theorem slash_calls (h : SC w I σ base cs) (hw : StWf σ) {a b : Vt} {aw bw : Option Addr} {ac bc : Nat} (ha : Ints .i64 w aw a.who) (hb : Ints .i64 w bw b.who) (hbs : ∀ ad, bw = some ad → ad.spot = none) (hal : a.who.length ≤ 1000000) (hbl : b.who.length ≤ 1000000)
  (has : a.sl ≤ 9223372036854775807) (hbsl : b.sl ≤ 9223372036854775807) (hcl : cs.length ≤ 1000000) :
  Calls Tryz.prog 38 #[.pointer (some ⟨I.p, 0, none⟩), .agg (prC a b aw bw ac bc)] w fun e w' => e = .returned (errV (shownE σ.bs.length σ.S a b)) ∧ ∃ ch, SC w' { I with ch := ch } { σ with V := (banAll σ.V cs (shownF σ.bs.length σ.S a b)).1 } base (banAll σ.V cs (shownF σ.bs.length σ.S a b)).2 ∧ Stp I { I with ch := ch } w w' := by
 have HH := lh h
 have hpl := h.mlt (.inl rfl : Mut I I.p)
 have hN1 := hw.may.l1
 have hN2 := hw.may.l2
 have hS2 := hw.may.s2
 have HST := lh (Stp.refl I w)
 obtain ⟨E, hE⟩ : ∃ E, E = shownE σ.bs.length σ.S a b := ⟨_, rfl⟩
 obtain ⟨L, hL⟩ : ∃ L, L = shownF σ.bs.length σ.S a b := ⟨_, rfl⟩
 have hLm : ∀ k ∈ L, 0 ≤ k ∧ k < (σ.bs.length : Int) := fun k hk => by rw [hL] at hk; exact shownF_mem hk
 have hLl : L.length ≤ 1000000 := by rw [hL]; exact Nat.le_trans shownF_len hal
 have hsh := fun (w : World) (ha : Ints .i64 w aw a.who) (hb : Ints .i64 w bw b.who) => shown_calls (ca := I.ba) (cc := I.bc) (ac := ac) (bc := bc) (S := σ.S) (B := σ.B) (bs := σ.bs) ha hb hbs hal hbl has hbsl (by omega)
 rw [← hE, ← hL] at hsh ⊢
 have HA := lh ha
 have HB := lh hb
 have HSH := lh hsh
 have HLM := lh hLm
 clear ha hb hsh hLm
 clear h hE hL
 unfold cfgV at HSH
 go_enter Tryz.func38, Tryz.ntmps38
 go_upto_region 1 with (fail)
 refine nmC1 ?_
 intro W b0 hz hg
 obtain ⟨q, hq_q⟩ : ∃ q, q = w.heap.size := ⟨_, rfl⟩
 rw [← hq_q] at b0 hz hpl ⊢
 have HQ_q := lh hq_q
 clear hq_q
 change Blk W q (prC a b aw bw ac bc) 66 at b0
 have HB0 := lh b0
 clear b0
 replace HH := lh (HH.out.g hg)
 replace HST := lh (HST.out.g hg)
 replace HA := lh (HA.out.g hg)
 replace HB := lh (HB.out.g hg)
 clear hg hz
 have TK := lh fun w (hSw : (fun wr => SC wr I σ base cs ∧ Blk wr q (prC a b aw bw ac bc) 66) w) => And.intro hSw.1.s0 <| And.intro hSw.1.s1 <| hSw.1.s2
 refine wp_region_late (fun wr => SC wr I σ base cs ∧ Blk wr q (prC a b aw bw ac bc) 66) [] (by as_aux_lemma => kernel_rfl) ?_
 have hgd := gdrew (gR W none)
 have hS : (fun wr => SC wr I σ base cs ∧ Blk wr q (prC a b aw bw ac bc) 66) W.drew := ⟨HH.out.g hgd, HB0.out.g hgd⟩
 replace HA := lh (HA.out.g hgd)
 replace HB := lh (HB.out.g hgd)
 replace HST := lh (HST.out.g hgd)
 clear hgd HH HB0
 generalize W.drew = w2 at HA HB HST hS ⊢
 refine pM 0 ?_
 simp only [zz]
 refine pM 1 ?_
 simp only [zz]
 refine pM 2 ?_
 simp only [zz]
 refine tM 3 ?_
 simp only [zz]
 refine wM 4 ?_ ?_ hS ?_; rotate_left; · intro w hSw; (refine exec_load_all (ty := 66) (hSw.2) ?_ _ Tryz.underlying66 rfl ?_ <;> first | exact ⟨_, rfl, rfl⟩ | (as_aux_lemma => kernel_rfl))
 simp only [zz]
 refine rM 5 fun K hK => ?_
 go_simp
 refine (HSH.out _ HA.out HB.out).mono ?_
 rintro e w3 ⟨v, rfl, hrow, hg⟩
 obtain ⟨wa, c, rfl, hI, hn⟩ := ints_own hrow
 have hwo : ∀ ad, wa = some ad → Out I w3 ad.block := fun ad e => by
  subst e
  have h1 := hrow.lt ad.block rfl
  exact hS.1.fresh hg h1.1 h1.2
 have hS2 : (fun wr => _) w3 := And.intro (hS.1.g hg) (hS.2.g hg)
 replace HST := lh (HST.out.g hg)
 have HI := lh hI
 have HWO := lh hwo
 clear hI hwo
 clear hg hrow
 refine hK.out _ _ (.inl (fun _ => hS2)) ?_
 replace hS := hS2; clear hK K hS2
 try simp only [zz]
 refine pM 6 ?_
 simp only [zz]
 refine pM 7 ?_
 simp only [zz]
 refine pM 8 ?_
 simp only [zz]
 refine pM 9 ?_
 simp only [zz]
 refine pM 10 ?_
 simp only [zz]
 refine dM ?_ _
 have hsc := hS.1
 clear hS HA HB
 have HH := lh hsc
 clear hsc
 go_upto_region 2 with (fail)
 go_wp2_with fail
 go_loopw [22] (fun v22 wr => ∃ (j : Nat), v22 = .int .i64 (j : Int) ∧ j ≤ L.length ∧ ∃ (ch : Value), SC wr { I with ch := ch } { σ with V := (banAll σ.V cs (L.take j)).1 } base (banAll σ.V cs (L.take j)).2 ∧
   Stp I { I with ch := ch } w wr ∧ Ints .i64 wr wa L ∧ (∀ ad, wa = some ad → Out { I with ch := ch } wr ad.block)) (fun v22 _ => L.length - (intOf v22).toNat)
 case atStart => exact ⟨0, rfl, by omega, I.ch, HH.out, HST.out, HI.out, HWO.out⟩
 case round =>
  obtain ⟨j, rfl, hj, ch, hsc, hst, hv, ho⟩ := hrel
  clear HH HST HI HWO
  have HH := lh hsc
  have HST := lh hst
  have HV := lh hv
  have HO := lh ho
  clear hsc hst hv ho
  by_cases hlt : j < L.length
  ·obtain ⟨ad, rfl, hc⟩ := HV.out j hlt
   have hk := HLM.out (L.getD j 0) (by rw [List.getD_eq_getElem?_getD, List.getElem?_eq_getElem hlt]; simp)
   have hnx := banAll_snoc σ.V cs (L.take j) (L.getD j 0)
   rw [← take_succ' L j hlt 0] at hnx
   have hln := banAll_len (L.take j) σ.V cs
   have hlj : (L.take j).length ≤ 1000000 := by rw [List.length_take]; omega
   obtain ⟨P, hP⟩ : ∃ P, P = banAll σ.V cs (L.take j) := ⟨_, rfl⟩
   obtain ⟨P2, hP2⟩ : ∃ P2, P2 = banAll σ.V cs (L.take (j + 1)) := ⟨_, rfl⟩
   rw [← hP] at HH hnx hln
   rw [← hP2] at hnx
   obtain ⟨k, hke⟩ : ∃ k, k = L.getD j 0 := ⟨_, rfl⟩
   rw [← hke] at hk hnx hc
   obtain ⟨i, hi⟩ : ∃ i : Nat, k = (i : Int) := ⟨k.toNat, by omega⟩
   rw [hi] at hk hnx hc
   have hi2 : i < σ.bs.length := by omega
   have HNX := lh hnx
   have HP2 := lh hP2
   clear hnx hP2
   clear hP hke hi
   have c4 : wr.cell? ⟨I.p, 4, none⟩ = some (.slice (some ⟨I.vb, 0, none⟩) σ.bs.length σ.bs.length) := HH.out.s4
   obtain ⟨fm, hfm⟩ : ∃ fm, fm = frmE (P.1 i) := ⟨_, rfl⟩
   obtain ⟨hd, hhd2⟩ : ∃ hd, hd = hadE (P.1 i) := ⟨_, rfl⟩
   obtain ⟨TB, hTB⟩ : ∃ TB, TB = (P.1 i).b := ⟨_, rfl⟩
   have HGET : Hid (Calls Tryz.prog 57 #[.slice (some ⟨I.vb, 0, none⟩) σ.bs.length σ.bs.length, .int .i64 i] wr fun z w' => z = .returned (.tuple #[.int .u64 fm, .bool hd]) ∧ wr = w') := lh (by rw [hfm, hhd2]; exact get_in HH.out.votes hN2 hi2)
   have hbn := ban_any HH.out.votes hN2 hi2
   simp only at hbn
   rw [← hTB] at hbn
   have HBN := lh hbn
   have hnx2 : P2 = (banV P.1 i, if TB then P.2 else P.2 ++ [⟨2, 0, 0, (i : Int), fm, hd⟩]) := by
    rw [HNX.out, hfm, hhd2, hTB]
    unfold banStep banV
    simp only [Int.toNat_natCast]
    cases (P.1 i).b <;> simp
   have HNX2 := lh hnx2
   clear hnx2
   clear hfm hhd2 HNX hbn hTB
   go_upto_region 5 with (fail)
   go_wp2_with fail
   refine HGET.out.mono ?_
   rintro e w2 ⟨rfl, rfl⟩
   clear HGET
   go_upto_region 6 with (fail)
   go_wp2_with fail
   refine HBN.out.mono ?_
   rintro e w2 ⟨rfl, hva, hgr⟩
   have hv2 := HH.out.voted hva hgr
   have hi2 := hv2.2.ints HV.out HO.out
   have ho2 := fun ad e => hv2.2.out (HO.out ad e)
   have hs2 := HST.out.trans hv2.2
   have hc2 := hv2.1
   clear HH HV HST HO hva hgr hv2 c4 HBN
   have HH := lh hc2
   have HV := lh hi2
   have HST := lh hs2
   have HO := lh ho2
   clear hc2 hi2 hs2 ho2
   simp only at HH
   cases TB
   ·simp only [Bool.not_false]
    go_upto_region 7 with (fail)
    obtain ⟨i0, hi0⟩ := elem_chg
    have c13 : w2.cell? ⟨I.p, 13, none⟩ = some ch := HH.out.s13
    have hbs := HH.out.bl
    have hN0 : 0 < σ.bs.length := by omega
    have hpw : I.p < w2.heap.size := HH.out.mlt (.inl rfl : Mut I I.p)
    have hcp : some I.p ≠ ch.ownBlock := fun e => HH.out.chm (.inl rfl : Mut I I.p) e.symm
    have HI := lh hi0
    have HCP := lh hcp
    clear hcp
    clear hi0
    go_wp2_with (at_builtin; refine wpList_append_lies _ rfl _ _ 76 rfl base 178 i0 (.agg #[.int .i64 0, .int .u64 0, .int .u64 0, .int .i64 0, .int .u64 0, .bool false]) 6 48 Tryz.underlying76 HI.out.1 HI.out.2.1 HI.out.2.2.1 HI.out.2.2.2 rfl (by decide) ch P.2.length (cgRow P.2) rfl (HH.out.row.alloc _) ⟨w2.heap.size, 0, none⟩ 1 1 [.int .i64 2, .int .u64 0, .int .u64 0, .int .i64 (i : Int), .int .u64 fm, .bool hd] rfl rfl (World.news_of_block (MapKept.heap_alloc _ _).1) (by simp [Value.oneCell']) (by decide) (by unfold maxLen; omega) (by omega) (by simp; omega) _ rfl ?_; intro g5 c5 w5 h5 hg5 hat5 hlt5; have hS : World.grownBy w2 w5 ch.ownBlock := World.grownBy.andThen (gweak (World.grownBy_alloc w2 _ none)) hg5 (fun _ e => .inr e); have d13 : w5.cell? ⟨I.p, 13, none⟩ = some ch := hS.cell c13 HCP.out; have f13 : w5.frozen? ⟨I.p, 13, none⟩ = false := (HH.out.st.blk.kept hS (fun e => HCP.out e.symm)).fr 13; have hat6 : ch.ownBlock = some g5 ∨ w2.heap.size ≤ g5 := hat5.imp id (fun e => by simp at e; omega); have HPU := lh (HH.out.push hN0 (x := ⟨2, 0, 0, (i : Int), fm, hd⟩) hS hat6 hlt5 h5); clear h5 hg5 hat5 hlt5 hS hat6)
    obtain ⟨hsc, hst⟩ := HPU.out
    exact ⟨⟨j + 1, by simp, by omega, _, by rw [← HP2.out, HNX2.out]; exact hsc, HST.out.trans hst, hst.ints HV.out HO.out, fun ad e => hst.out (HO.out ad e)⟩, by simp [intOf]; omega⟩
   ·simp only [Bool.not_true]
    go_wp2_with fail
    refine ⟨⟨j + 1, by simp, by omega, ch, ?_, HST.out, HV.out, HO.out⟩, by simp [intOf]; omega⟩
    rw [← HP2.out, HNX2.out]
    exact HH.out
  ·have hje : j = L.length := by omega
   subst hje
   rw [List.take_length] at HH
   go_wp2_with fail
   go_ret
   exact ⟨rfl, ch, HH.out, HST.out⟩
end
end Go.Proofs.YtndfpmboanohcaaGreatDoor
