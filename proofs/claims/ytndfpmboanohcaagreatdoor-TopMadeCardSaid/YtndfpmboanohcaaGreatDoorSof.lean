/- Contract of store.Of at a configuration that may be. -/
import Derived.Test.YtndfpmboanohcaaGreatDoorAppToFed
namespace Go.Proofs.YtndfpmboanohcaaGreatDoor
set_option maxRecDepth 100000
open Go.RowKit Go.Maps SkipPure
def st0 (bs : List Int) (S B : Int) : St :=
 { bs := bs, S := S, B := B, f := 1, F := fun x => if x = 1 then some (1, 0, 0) else none, n := 1, V := fun _ => E0, slot := 0, boosted := 0, je := 0, jr := 1, fe := 0, fr := 1,
   L := fun x => if x = 1 then some (led0 bs.length 1) else none, gone := fun _ => False }
theorem nmAm {w : World} {K : Act → World → Prop} {a : Act} (h : ∀ W, RawMap Tryz.prog 27 W w.heap.size 0 (fun _ => none) → W.heap.size = w.heap.size + 1 → w.grownBy W none → K a W) : K a (w.alloc (Obj.map #[] 0)) :=
 h _ (RawMap.made Tryz.prog 27 w) (by simp) (World.grownBy_alloc w _ none)
theorem ints_owned {kd : IntKind} {w : World} {base : Nat} {T : TypeId} {g c : Nat} {xs : List Int} (h : w.ownsRow base T 1 (.slice (some ⟨g, 0, none⟩) xs.length c) xs.length (xs.map (Value.int kd))) : Ints kd w (some ⟨g, 0, none⟩) xs := fun i hi => by
 refine ⟨_, rfl, h.cells (g := g) rfl i _ ?_⟩
 rw [List.getElem?_map, List.getElem?_eq_getElem hi]
 simp [List.getD_eq_getElem?_getD, List.getElem?_eq_getElem hi]
theorem ints_news {kd : IntKind} {w : World} {ad : Addr} {xs : List Int} (h : Ints kd w (some ad) xs) : ∀ j u, (xs.map (Value.int kd))[j]? = some u → w.cell? (ad.add j) = some u := fun j u hu => by
 rw [List.getElem?_map] at hu
 obtain ⟨x, hx, rfl⟩ := Option.map_eq_some_iff.1 hu
 obtain ⟨hj, hx⟩ := List.getElem?_eq_some_iff.1 hx
 obtain ⟨a, e, hc⟩ := h j hj
 cases e
 rw [hc]
 simp [List.getD_eq_getElem?_getD, List.getElem?_eq_getElem hj, hx]
theorem TreeAt.lts {w : World} {p b n : Nat} {f : Int} {F : Int → Option (Int × Int × Int)} (h : TreeAt w p b n f F) : p < w.heap.size ∧ b < w.heap.size := ⟨Blk.lt (q := p) h.2.1, h.2.2.lt⟩
theorem LMap.lt {w : World} {ok : Nat → Prop} {b N : Nat} {L : Int → Option Led} (h : LMap w ok b N L) : b < w.heap.size := by
 obtain ⟨_, _, _, h, _⟩ := h; exact h.lt
theorem LMap.one {w : World} {ok : Nat → Prop} {lm N : Nat} {k : Int} {v : Value} {x : Led} {n : Nat} (h : RawMap Tryz.prog 27 w lm n (upd (fun _ => none) k v)) (hl : LedAt w ok N x v) (hn : n = 1 := by rfl) : LMap w ok lm N (fun r => if r = k then some x else none) := by
 refine ⟨n, [k], _, h, by simp, by simp [hn], by simp, fun r => ?_⟩
 unfold upd
 by_cases e : r = k
 ·simp only [if_pos e]
  exact ⟨by simp, fun y hy => ⟨v, rfl, by cases hy; exact hl⟩⟩
 ·simp only [if_neg e]
  exact ⟨by simp, by simp⟩
theorem TreeAt.ne {w : World} {p b n : Nat} {f : Int} {F : Int → Option (Int × Int × Int)} (h : TreeAt w p b n f F) : p ≠ b := by
 intro e
 have h1 := h.2.1
 obtain ⟨D, ⟨es, clock, h2, _⟩, _⟩ := h.2.2
 rw [e, h2] at h1
 cases h1
theorem mut_ge {I : Ids} {m : Nat} (h : m ≤ I.p ∧ m ≤ I.tp ∧ m ≤ I.tb ∧ m ≤ I.vb ∧ m ≤ I.lm ∧ m ≤ I.gm) : ∀ i, Mut I i → m ≤ i := fun i hi => by
 rcases hi with e | e | e | e | e | e <;> rw [e]
 ·exact h.1
 ·exact h.2.1
 ·exact h.2.2.1
 ·exact h.2.2.2.1
 ·exact h.2.2.2.2.1
 ·exact h.2.2.2.2.2
theorem st0_at {w : World} {bs : List Int} {S B : Int} {p tp tb vb lm gm g5 c5 N M base : Nat} {T2 : TypeId}
  (hb : Blk w p #[.slice (some ⟨g5, 0, none⟩) bs.length c5, .int .i64 S, .int .i64 B, .pointer (some ⟨tp, 0, none⟩), .slice (some ⟨vb, 0, none⟩) bs.length bs.length, .int .i64 0, .int .u64 0,
    .int .i64 0, .int .u64 1, .int .i64 0, .int .u64 1, .map (some lm), .map (some gm), .slice none 0 0] 78)
  (ho : w.ownsRow base T2 1 (.slice (some ⟨g5, 0, none⟩) bs.length c5) bs.length (bs.map (Value.int .u64))) (ht : TreeAt w tp tb 1 1 (fun x => if x = 1 then some (1, 0, 0) else none)) (hv : VAt w vb bs.length (fun _ => E0))
  (hl : LMap w (fun i => N ≤ i ∧ i < M) lm bs.length (fun r => if r = 1 then some (led0 bs.length 1) else none)) (hg : RawMap Tryz.prog 27 w gm 0 (fun _ => none))
  (hd : [p, tp, tb, vb, lm, gm].Nodup) (hok : ∀ i, N ≤ i → i < M → i ≠ p ∧ i ≠ tp ∧ i ≠ tb ∧ i ≠ vb ∧ i ≠ lm ∧ i ≠ gm) (hap : g5 ≠ p ∧ g5 ≠ tp ∧ g5 ≠ tb ∧ g5 ≠ vb ∧ g5 ≠ lm ∧ g5 ≠ gm) :
  StoreAt w ⟨p, tp, tb, vb, lm, gm, some ⟨g5, 0, none⟩, c5, .slice none 0 0, fun _ => False⟩ (st0 bs S B) := by
 refine ⟨hb, ints_owned ho, ht, hv, hl.imp (fun i hi hf => ?_), ?_, hd, fun ad he hf => ?_, fun i hi => hi.elim, fun i hi => hi.elim⟩
 ·have h := hok i hi.1 hi.2
  rcases hf with hf | hf
  ·rcases hf with e | e | e | e | e | e
   ·exact h.1 e
   ·exact h.2.1 e
   ·exact h.2.2.1 e
   ·exact h.2.2.2.1 e
   ·exact h.2.2.2.2.1 e
   ·exact h.2.2.2.2.2 e
  ·exact hf
 ·refine ⟨0, [], ?_, List.nodup_nil, rfl, by simp⟩
  have e : setF (fun _ => False) = fun _ => none := by funext r; simp [setF]
  show RawMap _ _ _ _ _ (setF (fun _ => False))
  rw [e]
  exact hg
 ·cases he
  rcases hf with hf | hf
  ·rcases hf with e | e | e | e | e | e
   ·exact hap.1 e
   ·exact hap.2.1 e
   ·exact hap.2.2.1 e
   ·exact hap.2.2.2.1 e
   ·exact hap.2.2.2.2.1 e
   ·exact hap.2.2.2.2.2 e
  ·exact hf
section
variable {w : World} {bs : List Int} {S B : Int} {ad : Option Addr} {c : Nat}
set_option maxHeartbeats 8000000 in
theorem sof_calls (hb : Ints .u64 w ad bs) (hm : MayBe bs S B) :
  Calls Tryz.prog 18 #[cfgV ad bs.length c S B] w fun e w' => ∃ I, e = .returned (.tuple #[.pointer (some ⟨I.p, 0, none⟩), .nilIface]) ∧ StoreAt w' I (st0 bs S B) ∧ I.ch = .slice none 0 0 ∧ I.ex = (fun _ => False) ∧ (∀ i, Mut I i → w.heap.size ≤ i) ∧ w.grownBy w' none := by
 have HB := lh hb
 have HMB := lh hm
 have hl1 := hm.l1
 have hl2 := hm.l2
 clear hb hm
 have hmm := @run_makeMap Tryz.prog
 have HMM := lh hmm
 clear hmm
 unfold cfgV
 go_enter Tryz.func18, Tryz.ntmps18
 go_upto_region 1 with (fail)
 refine nmC1 ?_
 intro W b0 hz hg
 obtain ⟨q, hq_q⟩ : ∃ q, q = w.heap.size := ⟨_, rfl⟩
 rw [← hq_q] at b0 hz ⊢
 have HQ_q := lh hq_q
 clear hq_q
 have HQ := lh b0
 have HG := lh hg
 clear b0 hg
 replace HB := lh (Ints.kept HB.out HG.out)
 obtain ⟨c0, c1, c2⟩ := HQ.out.c3
 go_wp2_with fail
 refine (may_calls HB.out rfl HMB.out).mono ?_
 rintro e w1 ⟨rfl, hg⟩
 replace HB := lh (Ints.kept HB.out hg)
 replace HQ := lh (HQ.out.g hg)
 replace HG := lh (g2 HG.out hg)
 clear hg c0 c1 c2
 go_upto_region 3 with (fail)
 go_upto_region 4 with (fail)
 refine nmC1 ?_
 intro w2 b4 hz hg
 have hql := HQ.out.lt
 obtain ⟨q4, hq_q4⟩ : ∃ q, q = w1.heap.size := ⟨_, rfl⟩
 rw [← hq_q4] at b4 hz hql ⊢
 have HQ_q4 := lh hq_q4
 clear hq_q4
 replace HB := lh (Ints.kept HB.out hg)
 replace HQ := lh (HQ.out.g hg)
 replace HG := lh (g2 HG.out hg)
 have HP := lh b4
 clear b4
 clear hg hz
 obtain ⟨a, rfl⟩ : ∃ a, ad = some a := by
  obtain ⟨a, h, _⟩ := HB.out 0 hl1
  exact ⟨a, h⟩
 obtain ⟨i0, hi0⟩ := elem_u64
 have HI := lh hi0
 have hw2 := HG.out.size
 clear hi0
 obtain ⟨c0, c1, c2⟩ := HQ.out.c3
 obtain ⟨f0, f1, f2⟩ := HQ.out.f3
 go_wp2_with (at_builtin; refine wpList_append_lies _ rfl _ _ 34 rfl w.heap.size 27 i0 (.int .u64 0) 1 8 Tryz.underlying34 HI.out.1 HI.out.2.1 HI.out.2.2.1 HI.out.2.2.2 rfl (by decide) (.slice none 0 0) 0 [] rfl (World.ownsRow_nil _ _ _ _) a bs.length c (bs.map (Value.int .u64)) rfl (by simp) (ints_news HB.out) (by simp [Value.oneCell']) (by omega) (by unfold maxLen; omega) (by omega) hw2 _ rfl ?_; intro g5 c5 w5 h5 hg5 hat5 hlt5; have hgg : World.grownBy w2 w5 none := hg5; have c0 := (HQ.out.g hgg).at 0; have f0 := (HQ.out.g hgg).fr 0)
 have hs := (HQ.out.g hgg).set 0 (.slice (some ⟨g5, 0, none⟩) bs.length c5)
 simp only [List.setIfInBounds_toArray, List.set_cons_zero] at hs
 have hgs := gset w5 q 0 (.slice (some ⟨g5, 0, none⟩) bs.length c5)
 have hg5q : w2.heap.size = g5 := by
  rcases hat5 with h | h
  ·cases h
  ·exact h.symm
 have hq2 := HQ.out.lt
 have hp2 := HP.out.lt
 have hqw := Nat.le_of_eq HQ_q.out.symm
 rw [Nat.zero_add, List.nil_append] at h5
 have how := h5.kept hgs (.inr (by simp [Value.ownBlock]; omega))
 have hpp := (HP.out.g hgg).kept hgs (by simp; omega)
 have hgr := gnew (g2 HG.out hgg) hgs hqw
 clear h5 hat5 hgg c0 c1 c2 f0 f1 f2 HQ HP HG HB
 generalize w5.setCell ⟨q, 0, none⟩ (.slice (some ⟨g5, 0, none⟩) bs.length c5) = w6 at hs hgs how hpp hgr ⊢
 have hlt6 : g5 < w6.heap.size := Nat.lt_of_lt_of_le hlt5 hgs.size
 clear hgs
 have HQ := lh hs
 have HOW := lh how
 have HP := lh hpp
 have HG := lh hgr
 clear hs how hpp hgr
 have hmm := HMM.out
 have TK := lh fun w (hSw : (fun wr => Blk wr q #[.slice (some ⟨g5, 0, none⟩) bs.length c5, .int .i64 S, .int .i64 B] 36 ∧ Blk wr q4 #[.int .i64 0, .int .u64 1] 61) w) => And.intro hSw.1.c3 <| hSw.2.c2
 refine wp_region_late (fun wr => Blk wr q #[.slice (some ⟨g5, 0, none⟩) bs.length c5, .int .i64 S, .int .i64 B] 36 ∧ Blk wr q4 #[.int .i64 0, .int .u64 1] 61) [] (by as_aux_lemma => kernel_rfl) ?_
 have hgd := gdrew (gR w6 none)
 have hS : (fun wr => Blk wr q #[.slice (some ⟨g5, 0, none⟩) bs.length c5, .int .i64 S, .int .i64 B] 36 ∧ Blk wr q4 #[.int .i64 0, .int .u64 1] 61) w6.drew := ⟨HQ.out.g hgd, HP.out.g hgd⟩
 replace HOW := lh (HOW.out.kept hgd (.inr (by simp [Value.ownBlock])))
 replace HG := lh (g2 HG.out hgd)
 have hz6 := hgd.size
 clear hgd HQ HP
 have HG6 := lh (gR w6.drew none)
 have hlt7 : g5 < w6.drew.heap.size := hlt6
 generalize w6.drew = wl at HOW HG HG6 hS hz6 hlt7 ⊢
 refine pM 2 ?_
 simp only [zz]
 refine tM 0 ?_
 simp only [zz]
 refine tM 3 ?_
 simp only [zz]
 refine pM 4 ?_
 simp only [zz]
 refine tM 6 ?_
 simp only [zz]
 refine tM 7 ?_
 simp only [zz]
 refine tM 9 ?_
 simp only [zz]
 refine aM [1, 8, 13] (cM 1 (fun K hK => ?_) (cM 8 (fun K hK => ?_) (cM 13 (fun K hK => ?_) nM)))
 ·skip
  (try have om := HM.out.lt)
  (try have og := HM2.out.lt)
  go_simp
  refine (tof_calls _ (by unfold inU; omega)).mono ?_
  rintro e wl ⟨tp, tb, rfl, ht, htp, htb, hg⟩
  have hz1 := hg.size
  have hS2 : (fun wr => _) wl := And.intro (hS.1.g hg) (hS.2.g hg)
  replace HOW := lh (HOW.out.kept hg (.inr (by simp [Value.ownBlock])))
  replace HG := lh (g2 HG.out hg)
  (try replace HG6 := lh (g2 HG6.out hg))
  (try replace HM := lh (HM.out.kept hg (by simp)))
  (try replace HM2 := lh (HM2.out.kept hg (by simp)))
  have HT := lh ht
  have hlt1 := ht.lts
  have hne1 := ht.ne
  clear hg ht
  refine hK.out _ _ (.inl (fun _ => hS2)) ?_
  replace hS := hS2; clear hK K hS2
  try simp only [zz]
  refine aM [5, 8, 13] (cM 5 (fun K hK => ?_) (cM 8 (fun K hK => ?_) (cM 13 (fun K hK => ?_) nM)))
  ·skip
   (try have om := HM.out.lt)
   (try have og := HM2.out.lt)
   have ot := HT.out.lts
   go_simp
   refine (vof_calls _ bs.length (by omega)).mono ?_
   rintro e wl ⟨vb, rfl, hv, hvb, hg⟩
   have hz2 := hg.size
   have hS2 : (fun wr => _) wl := And.intro (hS.1.g hg) (hS.2.g hg)
   replace HOW := lh (HOW.out.kept hg (.inr (by simp [Value.ownBlock])))
   replace HG := lh (g2 HG.out hg)
   (try replace HG6 := lh (g2 HG6.out hg))
   replace HT := lh (HT.out.kept hg (by simp))
   (try replace HM := lh (HM.out.kept hg (by simp)))
   (try replace HM2 := lh (HM2.out.kept hg (by simp)))
   have HV := lh hv
   have hlt2 := hv.lt
   clear hg hv
   refine hK.out _ _ (.inl (fun _ => hS2)) ?_
   replace hS := hS2; clear hK K hS2
   try simp only [zz]
   refine aM [8, 10, 13] (cM 8 (fun K hK => ?_) (cM 10 (fun K hK => ?_) (cM 13 (fun K hK => ?_) nM)))
   ·skip
    (try have ot := HT.out.lts)
    (try have ov := HV.out.lt)
    (try have og := HM2.out.lt)
    have hmm := HMM.out
    go_simp
    clear hmm
    obtain ⟨lm, hlm⟩ : ∃ lm, lm = wl.heap.size := ⟨_, rfl⟩
    rw [← hlm]
    have hlm2 : wl.heap.size ≤ lm := by omega
    have hlm3 := hS.1.lt
    have hlm4 := hS.2.lt
    have hlm5 := HOW.out.lt g5 rfl
    have hlm6 := HG.out.size
    refine nmAm ?_
    intro wl hm hz3 hg
    rw [← hlm] at hm hz3
    have hz4 := hg.size
    have hz6 : lm < wl.heap.size := by omega
    clear hlm hz3
    have hS2 : (fun wr => _) wl := And.intro (hS.1.g hg) (hS.2.g hg)
    replace HOW := lh (HOW.out.kept hg (.inr (by simp [Value.ownBlock])))
    replace HG := lh (g2 HG.out hg)
    (try replace HG6 := lh (g2 HG6.out hg))
    (try replace HT := lh (HT.out.kept hg (by simp)))
    (try replace HV := lh (HV.out.kept hg (by simp)))
    (try replace HM2 := lh (HM2.out.kept hg (by simp)))
    (try replace HL := lh (LedAt.g HL.out hg))
    have HM := lh hm
    clear hg hm
    refine hK.out _ _ (.inl (fun _ => hS2)) ?_
    replace hS := hS2; clear hK K hS2
    try simp only [zz]
    refine aM [10, 13] (cM 10 (fun K hK => ?_) (cM 13 (fun K hK => ?_) nM))
    ·skip
     have ot := HT.out.lts
     have ov := HV.out.lt
     (try have om := HM.out.lt)
     (try have og := HM2.out.lt)
     go_simp
     obtain ⟨N10, hN⟩ : ∃ N, N = wl.heap.size := ⟨_, rfl⟩
     refine (open_calls (a := some ⟨g5, 0, none⟩) (c := c5) (S := S) (B := B) hl2 1).mono ?_
     rintro e wl ⟨v, rfl, hled, hg⟩
     have hz5 := hg.size
     have hled2 := hled.here hl1
     obtain ⟨M10, hM⟩ : ∃ M, M = wl.heap.size := ⟨_, rfl⟩
     rw [← hN, ← hM] at hled2
     have hS2 : (fun wr => _) wl := And.intro (hS.1.g hg) (hS.2.g hg)
     replace HOW := lh (HOW.out.kept hg (.inr (by simp [Value.ownBlock])))
     replace HG := lh (g2 HG.out hg)
     (try replace HG6 := lh (g2 HG6.out hg))
     replace HT := lh (HT.out.kept hg (by simp))
     replace HV := lh (HV.out.kept hg (by simp))
     (try replace HM := lh (HM.out.kept hg (by simp)))
     (try replace HM2 := lh (HM2.out.kept hg (by simp)))
     have HL := lh hled2
     have hN1 : M10 ≤ wl.heap.size := by omega
     have hN2 := HG.out.size
     have hN3 : tp < N10 ∧ tb < N10 ∧ vb < N10 := by omega
     (try have hN4 : lm < N10 := by omega)
     (try have hN5 : gm < N10 := by omega)
     have hN6 : g5 < N10 := by have := HG6.out.size; omega
     clear hg hled hled2 hM hN
     refine hK.out _ _ (.inl (fun _ => hS2)) ?_
     replace hS := hS2; clear hK K hS2
     try simp only [zz]
     refine aM [11, 13] (cM 11 (fun K hK => ?_) (cM 13 (fun K hK => ?_) nM))
     ·skip
      refine wp_store_any HM.out _ _ _ 74 (.inr rfl) Tryz.underlying27 Tryz.underlying74 (by unfold maxLen; omega) (k := 1) (by unfold inU; omega) v rfl rfl rfl ?_
      intro wl hm hg
      have hz7 := hg.size
      have hc := Chg.one (S := fun i => i = lm) hg rfl
      have hS2 : (fun wr => _) wl := And.intro (hS.1.kept hg (by simp; omega)) (hS.2.kept hg (by simp; omega))
      replace HOW := lh (HOW.out.kept hg (.inr (by simp [Value.ownBlock]; omega)))
      replace HG := lh (gnew HG.out hg (by omega))
      replace HT := lh (hc.tree HT.out (by omega) (by omega))
      replace HV := lh (hc.votes HV.out (by omega))
      (try replace HM2 := lh (hc.raw HM2.out (by omega)))
      have hlm := LMap.one hm (LedAt.chg HL.out hc (fun i hi e => by have h1 := hi.1; have h2 := hi.2; omega))
      have HLM := lh hlm
      clear hm hg hc HM HL hlm HG6
      refine hK.out _ _ (.inl (fun _ => hS2)) ?_
      replace hS := hS2; clear hK K hS2
      refine pM 12 ?_
      simp only [zz]
      refine rM 13 fun K hK => ?_
      (try have ot := HT.out.lts)
      (try have ov := HV.out.lt)
      (try have om := HM.out.lt)
      (try have ol := HLM.out.lt)
      have hmm := HMM.out
      go_simp
      clear hmm
      obtain ⟨gm, hlm⟩ : ∃ gm, gm = wl.heap.size := ⟨_, rfl⟩
      rw [← hlm]
      have hlm2 : wl.heap.size ≤ gm := by omega
      refine nmAm ?_
      intro wl hm hz3 hg
      rw [← hlm] at hm hz3
      have hz4 := hg.size
      have hz6 : gm < wl.heap.size := by omega
      clear hlm hz3
      have hS2 : (fun wr => _) wl := And.intro (hS.1.g hg) (hS.2.g hg)
      replace HOW := lh (HOW.out.kept hg (.inr (by simp [Value.ownBlock])))
      replace HG := lh (g2 HG.out hg)
      (try replace HG6 := lh (g2 HG6.out hg))
      (try replace HT := lh (HT.out.kept hg (by simp)))
      (try replace HV := lh (HV.out.kept hg (by simp)))
      (try replace HM := lh (HM.out.kept hg (by simp)))
      (try replace HL := lh (LedAt.g HL.out hg))
      (try replace HLM := lh (HLM.out.g hg))
      have HM2 := lh hm
      clear hg hm
      refine hK.out _ _ (.inl (fun _ => hS2)) ?_
      replace hS := hS2; clear hK K hS2
      try simp only [zz]
      refine pM 14 ?_
      simp only [zz]
      refine rM 15 fun K hK => ?_
      have ot := HT.out.lts
      have ov := HV.out.lt
      have og := HM2.out.lt
      have ol := HLM.out.lt
      go_simp
      obtain ⟨p, hp⟩ : ∃ p, p = wl.heap.size := ⟨_, rfl⟩
      rw [← hp]
      refine nmA1 ?_
      intro wl hb hg
      rw [← hp] at hb
      have hz8 := hg.size
      have hS2 : (fun wr => _) wl := And.intro (hS.1.g hg) (hS.2.g hg)
      replace HOW := lh (HOW.out.kept hg (.inr (by simp [Value.ownBlock])))
      replace HG := lh (g2 HG.out hg)
      replace HT := lh (HT.out.kept hg (by simp))
      replace HV := lh (HV.out.kept hg (by simp))
      replace HM2 := lh (HM2.out.kept hg (by simp))
      replace HLM := lh (HLM.out.g hg)
      have HPB := lh hb
      have hpl := hb.lt
      have HPP := lh (Nat.le_of_eq hp.symm)
      have hp2 : tp < p ∧ tb < p ∧ vb < p ∧ gm < p ∧ lm < p ∧ M10 ≤ p := by omega
      clear hg hb hp
      refine hK.out _ _ (.inl (fun _ => hS2)) ?_
      replace hS := hS2; clear hK K hS2
      try simp only [zz]
      refine pM 16 ?_
      simp only [zz]
      refine pM 17 ?_
      simp only [zz]
      refine dM ?_ _
      go_wp2_with fail
      go_ret2
      have hlast := HG.out.size
      have hpw := HPP.out
      have hmut : w.heap.size ≤ p ∧ w.heap.size ≤ tp ∧ w.heap.size ≤ tb ∧ w.heap.size ≤ vb ∧ w.heap.size ≤ lm ∧ w.heap.size ≤ gm := by omega
      exact ⟨⟨p, tp, tb, vb, lm, gm, some ⟨g5, 0, none⟩, c5, .slice none 0 0, fun _ => False⟩, rfl, st0_at HPB.out HOW.out HT.out HV.out HLM.out HM2.out (by simp; omega) (fun i h1 h2 => by omega) (by omega), rfl, rfl,
       mut_ge hmut, HG.out⟩
     ·skip
      (try have ot := HT.out.lts)
      (try have ov := HV.out.lt)
      (try have om := HM.out.lt)
      (try have ol := HLM.out.lt)
      have hmm := HMM.out
      go_simp
      clear hmm
      obtain ⟨gm, hlm⟩ : ∃ gm, gm = wl.heap.size := ⟨_, rfl⟩
      rw [← hlm]
      have hlm2 : wl.heap.size ≤ gm := by omega
      refine nmAm ?_
      intro wl hm hz3 hg
      rw [← hlm] at hm hz3
      have hz4 := hg.size
      have hz6 : gm < wl.heap.size := by omega
      clear hlm hz3
      have hS2 : (fun wr => _) wl := And.intro (hS.1.g hg) (hS.2.g hg)
      replace HOW := lh (HOW.out.kept hg (.inr (by simp [Value.ownBlock])))
      replace HG := lh (g2 HG.out hg)
      (try replace HG6 := lh (g2 HG6.out hg))
      (try replace HT := lh (HT.out.kept hg (by simp)))
      (try replace HV := lh (HV.out.kept hg (by simp)))
      (try replace HM := lh (HM.out.kept hg (by simp)))
      (try replace HL := lh (LedAt.g HL.out hg))
      (try replace HLM := lh (HLM.out.g hg))
      have HM2 := lh hm
      clear hg hm
      refine hK.out _ _ (.inl (fun _ => hS2)) ?_
      replace hS := hS2; clear hK K hS2
      try simp only [zz]
      refine rM 11 fun K hK => ?_
      refine wp_store_any HM.out _ _ _ 74 (.inr rfl) Tryz.underlying27 Tryz.underlying74 (by unfold maxLen; omega) (k := 1) (by unfold inU; omega) v rfl rfl rfl ?_
      intro wl hm hg
      have hz7 := hg.size
      have hc := Chg.one (S := fun i => i = lm) hg rfl
      have hS2 : (fun wr => _) wl := And.intro (hS.1.kept hg (by simp; omega)) (hS.2.kept hg (by simp; omega))
      replace HOW := lh (HOW.out.kept hg (.inr (by simp [Value.ownBlock]; omega)))
      replace HG := lh (gnew HG.out hg (by omega))
      replace HT := lh (hc.tree HT.out (by omega) (by omega))
      replace HV := lh (hc.votes HV.out (by omega))
      (try replace HM2 := lh (hc.raw HM2.out (by omega)))
      have hlm := LMap.one hm (LedAt.chg HL.out hc (fun i hi e => by have h1 := hi.1; have h2 := hi.2; omega))
      have HLM := lh hlm
      clear hm hg hc HM HL hlm HG6
      refine hK.out _ _ (.inl (fun _ => hS2)) ?_
      replace hS := hS2; clear hK K hS2
      refine pM 12 ?_
      simp only [zz]
      refine pM 14 ?_
      simp only [zz]
      refine rM 15 fun K hK => ?_
      have ot := HT.out.lts
      have ov := HV.out.lt
      have og := HM2.out.lt
      have ol := HLM.out.lt
      go_simp
      obtain ⟨p, hp⟩ : ∃ p, p = wl.heap.size := ⟨_, rfl⟩
      rw [← hp]
      refine nmA1 ?_
      intro wl hb hg
      rw [← hp] at hb
      have hz8 := hg.size
      have hS2 : (fun wr => _) wl := And.intro (hS.1.g hg) (hS.2.g hg)
      replace HOW := lh (HOW.out.kept hg (.inr (by simp [Value.ownBlock])))
      replace HG := lh (g2 HG.out hg)
      replace HT := lh (HT.out.kept hg (by simp))
      replace HV := lh (HV.out.kept hg (by simp))
      replace HM2 := lh (HM2.out.kept hg (by simp))
      replace HLM := lh (HLM.out.g hg)
      have HPB := lh hb
      have hpl := hb.lt
      have HPP := lh (Nat.le_of_eq hp.symm)
      have hp2 : tp < p ∧ tb < p ∧ vb < p ∧ gm < p ∧ lm < p ∧ M10 ≤ p := by omega
      clear hg hb hp
      refine hK.out _ _ (.inl (fun _ => hS2)) ?_
      replace hS := hS2; clear hK K hS2
      try simp only [zz]
      refine pM 16 ?_
      simp only [zz]
      refine pM 17 ?_
      simp only [zz]
      refine dM ?_ _
      go_wp2_with fail
      go_ret2
      have hlast := HG.out.size
      have hpw := HPP.out
      have hmut : w.heap.size ≤ p ∧ w.heap.size ≤ tp ∧ w.heap.size ≤ tb ∧ w.heap.size ≤ vb ∧ w.heap.size ≤ lm ∧ w.heap.size ≤ gm := by omega
      exact ⟨⟨p, tp, tb, vb, lm, gm, some ⟨g5, 0, none⟩, c5, .slice none 0 0, fun _ => False⟩, rfl, st0_at HPB.out HOW.out HT.out HV.out HLM.out HM2.out (by simp; omega) (fun i h1 h2 => by omega) (by omega), rfl, rfl,
       mut_ge hmut, HG.out⟩
    ·skip
     (try have ot := HT.out.lts)
     (try have ov := HV.out.lt)
     (try have om := HM.out.lt)
     (try have ol := HLM.out.lt)
     have hmm := HMM.out
     go_simp
     clear hmm
     obtain ⟨gm, hlm⟩ : ∃ gm, gm = wl.heap.size := ⟨_, rfl⟩
     rw [← hlm]
     have hlm2 : wl.heap.size ≤ gm := by omega
     refine nmAm ?_
     intro wl hm hz3 hg
     rw [← hlm] at hm hz3
     have hz4 := hg.size
     have hz6 : gm < wl.heap.size := by omega
     clear hlm hz3
     have hS2 : (fun wr => _) wl := And.intro (hS.1.g hg) (hS.2.g hg)
     replace HOW := lh (HOW.out.kept hg (.inr (by simp [Value.ownBlock])))
     replace HG := lh (g2 HG.out hg)
     (try replace HG6 := lh (g2 HG6.out hg))
     (try replace HT := lh (HT.out.kept hg (by simp)))
     (try replace HV := lh (HV.out.kept hg (by simp)))
     (try replace HM := lh (HM.out.kept hg (by simp)))
     (try replace HL := lh (LedAt.g HL.out hg))
     (try replace HLM := lh (HLM.out.g hg))
     have HM2 := lh hm
     clear hg hm
     refine hK.out _ _ (.inl (fun _ => hS2)) ?_
     replace hS := hS2; clear hK K hS2
     try simp only [zz]
     refine rM 10 fun K hK => ?_
     have ot := HT.out.lts
     have ov := HV.out.lt
     (try have om := HM.out.lt)
     (try have og := HM2.out.lt)
     go_simp
     obtain ⟨N10, hN⟩ : ∃ N, N = wl.heap.size := ⟨_, rfl⟩
     refine (open_calls (a := some ⟨g5, 0, none⟩) (c := c5) (S := S) (B := B) hl2 1).mono ?_
     rintro e wl ⟨v, rfl, hled, hg⟩
     have hz5 := hg.size
     have hled2 := hled.here hl1
     obtain ⟨M10, hM⟩ : ∃ M, M = wl.heap.size := ⟨_, rfl⟩
     rw [← hN, ← hM] at hled2
     have hS2 : (fun wr => _) wl := And.intro (hS.1.g hg) (hS.2.g hg)
     replace HOW := lh (HOW.out.kept hg (.inr (by simp [Value.ownBlock])))
     replace HG := lh (g2 HG.out hg)
     (try replace HG6 := lh (g2 HG6.out hg))
     replace HT := lh (HT.out.kept hg (by simp))
     replace HV := lh (HV.out.kept hg (by simp))
     (try replace HM := lh (HM.out.kept hg (by simp)))
     (try replace HM2 := lh (HM2.out.kept hg (by simp)))
     have HL := lh hled2
     have hN1 : M10 ≤ wl.heap.size := by omega
     have hN2 := HG.out.size
     have hN3 : tp < N10 ∧ tb < N10 ∧ vb < N10 := by omega
     (try have hN4 : lm < N10 := by omega)
     (try have hN5 : gm < N10 := by omega)
     have hN6 : g5 < N10 := by have := HG6.out.size; omega
     clear hg hled hled2 hM hN
     refine hK.out _ _ (.inl (fun _ => hS2)) ?_
     replace hS := hS2; clear hK K hS2
     try simp only [zz]
     refine rM 11 fun K hK => ?_
     refine wp_store_any HM.out _ _ _ 74 (.inr rfl) Tryz.underlying27 Tryz.underlying74 (by unfold maxLen; omega) (k := 1) (by unfold inU; omega) v rfl rfl rfl ?_
     intro wl hm hg
     have hz7 := hg.size
     have hc := Chg.one (S := fun i => i = lm) hg rfl
     have hS2 : (fun wr => _) wl := And.intro (hS.1.kept hg (by simp; omega)) (hS.2.kept hg (by simp; omega))
     replace HOW := lh (HOW.out.kept hg (.inr (by simp [Value.ownBlock]; omega)))
     replace HG := lh (gnew HG.out hg (by omega))
     replace HT := lh (hc.tree HT.out (by omega) (by omega))
     replace HV := lh (hc.votes HV.out (by omega))
     (try replace HM2 := lh (hc.raw HM2.out (by omega)))
     have hlm := LMap.one hm (LedAt.chg HL.out hc (fun i hi e => by have h1 := hi.1; have h2 := hi.2; omega))
     have HLM := lh hlm
     clear hm hg hc HM HL hlm HG6
     refine hK.out _ _ (.inl (fun _ => hS2)) ?_
     replace hS := hS2; clear hK K hS2
     refine pM 12 ?_
     simp only [zz]
     refine pM 14 ?_
     simp only [zz]
     refine rM 15 fun K hK => ?_
     have ot := HT.out.lts
     have ov := HV.out.lt
     have og := HM2.out.lt
     have ol := HLM.out.lt
     go_simp
     obtain ⟨p, hp⟩ : ∃ p, p = wl.heap.size := ⟨_, rfl⟩
     rw [← hp]
     refine nmA1 ?_
     intro wl hb hg
     rw [← hp] at hb
     have hz8 := hg.size
     have hS2 : (fun wr => _) wl := And.intro (hS.1.g hg) (hS.2.g hg)
     replace HOW := lh (HOW.out.kept hg (.inr (by simp [Value.ownBlock])))
     replace HG := lh (g2 HG.out hg)
     replace HT := lh (HT.out.kept hg (by simp))
     replace HV := lh (HV.out.kept hg (by simp))
     replace HM2 := lh (HM2.out.kept hg (by simp))
     replace HLM := lh (HLM.out.g hg)
     have HPB := lh hb
     have hpl := hb.lt
     have HPP := lh (Nat.le_of_eq hp.symm)
     have hp2 : tp < p ∧ tb < p ∧ vb < p ∧ gm < p ∧ lm < p ∧ M10 ≤ p := by omega
     clear hg hb hp
     refine hK.out _ _ (.inl (fun _ => hS2)) ?_
     replace hS := hS2; clear hK K hS2
     try simp only [zz]
     refine pM 16 ?_
     simp only [zz]
     refine pM 17 ?_
     simp only [zz]
     refine dM ?_ _
     go_wp2_with fail
     go_ret2
     have hlast := HG.out.size
     have hpw := HPP.out
     have hmut : w.heap.size ≤ p ∧ w.heap.size ≤ tp ∧ w.heap.size ≤ tb ∧ w.heap.size ≤ vb ∧ w.heap.size ≤ lm ∧ w.heap.size ≤ gm := by omega
     exact ⟨⟨p, tp, tb, vb, lm, gm, some ⟨g5, 0, none⟩, c5, .slice none 0 0, fun _ => False⟩, rfl, st0_at HPB.out HOW.out HT.out HV.out HLM.out HM2.out (by simp; omega) (fun i h1 h2 => by omega) (by omega), rfl, rfl,
      mut_ge hmut, HG.out⟩
   ·skip
    have ot := HT.out.lts
    have ov := HV.out.lt
    (try have om := HM.out.lt)
    (try have og := HM2.out.lt)
    go_simp
    obtain ⟨N10, hN⟩ : ∃ N, N = wl.heap.size := ⟨_, rfl⟩
    refine (open_calls (a := some ⟨g5, 0, none⟩) (c := c5) (S := S) (B := B) hl2 1).mono ?_
    rintro e wl ⟨v, rfl, hled, hg⟩
    have hz5 := hg.size
    have hled2 := hled.here hl1
    obtain ⟨M10, hM⟩ : ∃ M, M = wl.heap.size := ⟨_, rfl⟩
    rw [← hN, ← hM] at hled2
    have hS2 : (fun wr => _) wl := And.intro (hS.1.g hg) (hS.2.g hg)
    replace HOW := lh (HOW.out.kept hg (.inr (by simp [Value.ownBlock])))
    replace HG := lh (g2 HG.out hg)
    (try replace HG6 := lh (g2 HG6.out hg))
    replace HT := lh (HT.out.kept hg (by simp))
    replace HV := lh (HV.out.kept hg (by simp))
    (try replace HM := lh (HM.out.kept hg (by simp)))
    (try replace HM2 := lh (HM2.out.kept hg (by simp)))
    have HL := lh hled2
    have hN1 : M10 ≤ wl.heap.size := by omega
    have hN2 := HG.out.size
    have hN3 : tp < N10 ∧ tb < N10 ∧ vb < N10 := by omega
    (try have hN4 : lm < N10 := by omega)
    (try have hN5 : gm < N10 := by omega)
    have hN6 : g5 < N10 := by have := HG6.out.size; omega
    clear hg hled hled2 hM hN
    refine hK.out _ _ (.inl (fun _ => hS2)) ?_
    replace hS := hS2; clear hK K hS2
    try simp only [zz]
    refine aM [8, 13] (cM 8 (fun K hK => ?_) (cM 13 (fun K hK => ?_) nM))
    ·skip
     (try have ot := HT.out.lts)
     (try have ov := HV.out.lt)
     (try have og := HM2.out.lt)
     have hmm := HMM.out
     go_simp
     clear hmm
     obtain ⟨lm, hlm⟩ : ∃ lm, lm = wl.heap.size := ⟨_, rfl⟩
     rw [← hlm]
     have hlm2 : wl.heap.size ≤ lm := by omega
     have hlm3 := hS.1.lt
     have hlm4 := hS.2.lt
     have hlm5 := HOW.out.lt g5 rfl
     have hlm6 := HG.out.size
     refine nmAm ?_
     intro wl hm hz3 hg
     rw [← hlm] at hm hz3
     have hz4 := hg.size
     have hz6 : lm < wl.heap.size := by omega
     clear hlm hz3
     have hS2 : (fun wr => _) wl := And.intro (hS.1.g hg) (hS.2.g hg)
     replace HOW := lh (HOW.out.kept hg (.inr (by simp [Value.ownBlock])))
     replace HG := lh (g2 HG.out hg)
     (try replace HG6 := lh (g2 HG6.out hg))
     (try replace HT := lh (HT.out.kept hg (by simp)))
     (try replace HV := lh (HV.out.kept hg (by simp)))
     (try replace HM2 := lh (HM2.out.kept hg (by simp)))
     (try replace HL := lh (LedAt.g HL.out hg))
     have HM := lh hm
     clear hg hm
     refine hK.out _ _ (.inl (fun _ => hS2)) ?_
     replace hS := hS2; clear hK K hS2
     try simp only [zz]
     refine aM [11, 13] (cM 11 (fun K hK => ?_) (cM 13 (fun K hK => ?_) nM))
     ·skip
      refine wp_store_any HM.out _ _ _ 74 (.inr rfl) Tryz.underlying27 Tryz.underlying74 (by unfold maxLen; omega) (k := 1) (by unfold inU; omega) v rfl rfl rfl ?_
      intro wl hm hg
      have hz7 := hg.size
      have hc := Chg.one (S := fun i => i = lm) hg rfl
      have hS2 : (fun wr => _) wl := And.intro (hS.1.kept hg (by simp; omega)) (hS.2.kept hg (by simp; omega))
      replace HOW := lh (HOW.out.kept hg (.inr (by simp [Value.ownBlock]; omega)))
      replace HG := lh (gnew HG.out hg (by omega))
      replace HT := lh (hc.tree HT.out (by omega) (by omega))
      replace HV := lh (hc.votes HV.out (by omega))
      (try replace HM2 := lh (hc.raw HM2.out (by omega)))
      have hlm := LMap.one hm (LedAt.chg HL.out hc (fun i hi e => by have h1 := hi.1; have h2 := hi.2; omega))
      have HLM := lh hlm
      clear hm hg hc HM HL hlm HG6
      refine hK.out _ _ (.inl (fun _ => hS2)) ?_
      replace hS := hS2; clear hK K hS2
      refine pM 12 ?_
      simp only [zz]
      refine rM 13 fun K hK => ?_
      (try have ot := HT.out.lts)
      (try have ov := HV.out.lt)
      (try have om := HM.out.lt)
      (try have ol := HLM.out.lt)
      have hmm := HMM.out
      go_simp
      clear hmm
      obtain ⟨gm, hlm⟩ : ∃ gm, gm = wl.heap.size := ⟨_, rfl⟩
      rw [← hlm]
      have hlm2 : wl.heap.size ≤ gm := by omega
      refine nmAm ?_
      intro wl hm hz3 hg
      rw [← hlm] at hm hz3
      have hz4 := hg.size
      have hz6 : gm < wl.heap.size := by omega
      clear hlm hz3
      have hS2 : (fun wr => _) wl := And.intro (hS.1.g hg) (hS.2.g hg)
      replace HOW := lh (HOW.out.kept hg (.inr (by simp [Value.ownBlock])))
      replace HG := lh (g2 HG.out hg)
      (try replace HG6 := lh (g2 HG6.out hg))
      (try replace HT := lh (HT.out.kept hg (by simp)))
      (try replace HV := lh (HV.out.kept hg (by simp)))
      (try replace HM := lh (HM.out.kept hg (by simp)))
      (try replace HL := lh (LedAt.g HL.out hg))
      (try replace HLM := lh (HLM.out.g hg))
      have HM2 := lh hm
      clear hg hm
      refine hK.out _ _ (.inl (fun _ => hS2)) ?_
      replace hS := hS2; clear hK K hS2
      try simp only [zz]
      refine pM 14 ?_
      simp only [zz]
      refine rM 15 fun K hK => ?_
      have ot := HT.out.lts
      have ov := HV.out.lt
      have og := HM2.out.lt
      have ol := HLM.out.lt
      go_simp
      obtain ⟨p, hp⟩ : ∃ p, p = wl.heap.size := ⟨_, rfl⟩
      rw [← hp]
      refine nmA1 ?_
      intro wl hb hg
      rw [← hp] at hb
      have hz8 := hg.size
      have hS2 : (fun wr => _) wl := And.intro (hS.1.g hg) (hS.2.g hg)
      replace HOW := lh (HOW.out.kept hg (.inr (by simp [Value.ownBlock])))
      replace HG := lh (g2 HG.out hg)
      replace HT := lh (HT.out.kept hg (by simp))
      replace HV := lh (HV.out.kept hg (by simp))
      replace HM2 := lh (HM2.out.kept hg (by simp))
      replace HLM := lh (HLM.out.g hg)
      have HPB := lh hb
      have hpl := hb.lt
      have HPP := lh (Nat.le_of_eq hp.symm)
      have hp2 : tp < p ∧ tb < p ∧ vb < p ∧ gm < p ∧ lm < p ∧ M10 ≤ p := by omega
      clear hg hb hp
      refine hK.out _ _ (.inl (fun _ => hS2)) ?_
      replace hS := hS2; clear hK K hS2
      try simp only [zz]
      refine pM 16 ?_
      simp only [zz]
      refine pM 17 ?_
      simp only [zz]
      refine dM ?_ _
      go_wp2_with fail
      go_ret2
      have hlast := HG.out.size
      have hpw := HPP.out
      have hmut : w.heap.size ≤ p ∧ w.heap.size ≤ tp ∧ w.heap.size ≤ tb ∧ w.heap.size ≤ vb ∧ w.heap.size ≤ lm ∧ w.heap.size ≤ gm := by omega
      exact ⟨⟨p, tp, tb, vb, lm, gm, some ⟨g5, 0, none⟩, c5, .slice none 0 0, fun _ => False⟩, rfl, st0_at HPB.out HOW.out HT.out HV.out HLM.out HM2.out (by simp; omega) (fun i h1 h2 => by omega) (by omega), rfl, rfl,
       mut_ge hmut, HG.out⟩
     ·skip
      (try have ot := HT.out.lts)
      (try have ov := HV.out.lt)
      (try have om := HM.out.lt)
      (try have ol := HLM.out.lt)
      have hmm := HMM.out
      go_simp
      clear hmm
      obtain ⟨gm, hlm⟩ : ∃ gm, gm = wl.heap.size := ⟨_, rfl⟩
      rw [← hlm]
      have hlm2 : wl.heap.size ≤ gm := by omega
      refine nmAm ?_
      intro wl hm hz3 hg
      rw [← hlm] at hm hz3
      have hz4 := hg.size
      have hz6 : gm < wl.heap.size := by omega
      clear hlm hz3
      have hS2 : (fun wr => _) wl := And.intro (hS.1.g hg) (hS.2.g hg)
      replace HOW := lh (HOW.out.kept hg (.inr (by simp [Value.ownBlock])))
      replace HG := lh (g2 HG.out hg)
      (try replace HG6 := lh (g2 HG6.out hg))
      (try replace HT := lh (HT.out.kept hg (by simp)))
      (try replace HV := lh (HV.out.kept hg (by simp)))
      (try replace HM := lh (HM.out.kept hg (by simp)))
      (try replace HL := lh (LedAt.g HL.out hg))
      (try replace HLM := lh (HLM.out.g hg))
      have HM2 := lh hm
      clear hg hm
      refine hK.out _ _ (.inl (fun _ => hS2)) ?_
      replace hS := hS2; clear hK K hS2
      try simp only [zz]
      refine rM 11 fun K hK => ?_
      refine wp_store_any HM.out _ _ _ 74 (.inr rfl) Tryz.underlying27 Tryz.underlying74 (by unfold maxLen; omega) (k := 1) (by unfold inU; omega) v rfl rfl rfl ?_
      intro wl hm hg
      have hz7 := hg.size
      have hc := Chg.one (S := fun i => i = lm) hg rfl
      have hS2 : (fun wr => _) wl := And.intro (hS.1.kept hg (by simp; omega)) (hS.2.kept hg (by simp; omega))
      replace HOW := lh (HOW.out.kept hg (.inr (by simp [Value.ownBlock]; omega)))
      replace HG := lh (gnew HG.out hg (by omega))
      replace HT := lh (hc.tree HT.out (by omega) (by omega))
      replace HV := lh (hc.votes HV.out (by omega))
      (try replace HM2 := lh (hc.raw HM2.out (by omega)))
      have hlm := LMap.one hm (LedAt.chg HL.out hc (fun i hi e => by have h1 := hi.1; have h2 := hi.2; omega))
      have HLM := lh hlm
      clear hm hg hc HM HL hlm HG6
      refine hK.out _ _ (.inl (fun _ => hS2)) ?_
      replace hS := hS2; clear hK K hS2
      refine pM 12 ?_
      simp only [zz]
      refine pM 14 ?_
      simp only [zz]
      refine rM 15 fun K hK => ?_
      have ot := HT.out.lts
      have ov := HV.out.lt
      have og := HM2.out.lt
      have ol := HLM.out.lt
      go_simp
      obtain ⟨p, hp⟩ : ∃ p, p = wl.heap.size := ⟨_, rfl⟩
      rw [← hp]
      refine nmA1 ?_
      intro wl hb hg
      rw [← hp] at hb
      have hz8 := hg.size
      have hS2 : (fun wr => _) wl := And.intro (hS.1.g hg) (hS.2.g hg)
      replace HOW := lh (HOW.out.kept hg (.inr (by simp [Value.ownBlock])))
      replace HG := lh (g2 HG.out hg)
      replace HT := lh (HT.out.kept hg (by simp))
      replace HV := lh (HV.out.kept hg (by simp))
      replace HM2 := lh (HM2.out.kept hg (by simp))
      replace HLM := lh (HLM.out.g hg)
      have HPB := lh hb
      have hpl := hb.lt
      have HPP := lh (Nat.le_of_eq hp.symm)
      have hp2 : tp < p ∧ tb < p ∧ vb < p ∧ gm < p ∧ lm < p ∧ M10 ≤ p := by omega
      clear hg hb hp
      refine hK.out _ _ (.inl (fun _ => hS2)) ?_
      replace hS := hS2; clear hK K hS2
      try simp only [zz]
      refine pM 16 ?_
      simp only [zz]
      refine pM 17 ?_
      simp only [zz]
      refine dM ?_ _
      go_wp2_with fail
      go_ret2
      have hlast := HG.out.size
      have hpw := HPP.out
      have hmut : w.heap.size ≤ p ∧ w.heap.size ≤ tp ∧ w.heap.size ≤ tb ∧ w.heap.size ≤ vb ∧ w.heap.size ≤ lm ∧ w.heap.size ≤ gm := by omega
      exact ⟨⟨p, tp, tb, vb, lm, gm, some ⟨g5, 0, none⟩, c5, .slice none 0 0, fun _ => False⟩, rfl, st0_at HPB.out HOW.out HT.out HV.out HLM.out HM2.out (by simp; omega) (fun i h1 h2 => by omega) (by omega), rfl, rfl,
       mut_ge hmut, HG.out⟩
    ·skip
     (try have ot := HT.out.lts)
     (try have ov := HV.out.lt)
     (try have om := HM.out.lt)
     (try have ol := HLM.out.lt)
     have hmm := HMM.out
     go_simp
     clear hmm
     obtain ⟨gm, hlm⟩ : ∃ gm, gm = wl.heap.size := ⟨_, rfl⟩
     rw [← hlm]
     have hlm2 : wl.heap.size ≤ gm := by omega
     refine nmAm ?_
     intro wl hm hz3 hg
     rw [← hlm] at hm hz3
     have hz4 := hg.size
     have hz6 : gm < wl.heap.size := by omega
     clear hlm hz3
     have hS2 : (fun wr => _) wl := And.intro (hS.1.g hg) (hS.2.g hg)
     replace HOW := lh (HOW.out.kept hg (.inr (by simp [Value.ownBlock])))
     replace HG := lh (g2 HG.out hg)
     (try replace HG6 := lh (g2 HG6.out hg))
     (try replace HT := lh (HT.out.kept hg (by simp)))
     (try replace HV := lh (HV.out.kept hg (by simp)))
     (try replace HM := lh (HM.out.kept hg (by simp)))
     (try replace HL := lh (LedAt.g HL.out hg))
     (try replace HLM := lh (HLM.out.g hg))
     have HM2 := lh hm
     clear hg hm
     refine hK.out _ _ (.inl (fun _ => hS2)) ?_
     replace hS := hS2; clear hK K hS2
     try simp only [zz]
     refine rM 8 fun K hK => ?_
     (try have ot := HT.out.lts)
     (try have ov := HV.out.lt)
     (try have og := HM2.out.lt)
     have hmm := HMM.out
     go_simp
     clear hmm
     obtain ⟨lm, hlm⟩ : ∃ lm, lm = wl.heap.size := ⟨_, rfl⟩
     rw [← hlm]
     have hlm2 : wl.heap.size ≤ lm := by omega
     have hlm3 := hS.1.lt
     have hlm4 := hS.2.lt
     have hlm5 := HOW.out.lt g5 rfl
     have hlm6 := HG.out.size
     refine nmAm ?_
     intro wl hm hz3 hg
     rw [← hlm] at hm hz3
     have hz4 := hg.size
     have hz6 : lm < wl.heap.size := by omega
     clear hlm hz3
     have hS2 : (fun wr => _) wl := And.intro (hS.1.g hg) (hS.2.g hg)
     replace HOW := lh (HOW.out.kept hg (.inr (by simp [Value.ownBlock])))
     replace HG := lh (g2 HG.out hg)
     (try replace HG6 := lh (g2 HG6.out hg))
     (try replace HT := lh (HT.out.kept hg (by simp)))
     (try replace HV := lh (HV.out.kept hg (by simp)))
     (try replace HM2 := lh (HM2.out.kept hg (by simp)))
     (try replace HL := lh (LedAt.g HL.out hg))
     have HM := lh hm
     clear hg hm
     refine hK.out _ _ (.inl (fun _ => hS2)) ?_
     replace hS := hS2; clear hK K hS2
     try simp only [zz]
     refine rM 11 fun K hK => ?_
     refine wp_store_any HM.out _ _ _ 74 (.inr rfl) Tryz.underlying27 Tryz.underlying74 (by unfold maxLen; omega) (k := 1) (by unfold inU; omega) v rfl rfl rfl ?_
     intro wl hm hg
     have hz7 := hg.size
     have hc := Chg.one (S := fun i => i = lm) hg rfl
     have hS2 : (fun wr => _) wl := And.intro (hS.1.kept hg (by simp; omega)) (hS.2.kept hg (by simp; omega))
     replace HOW := lh (HOW.out.kept hg (.inr (by simp [Value.ownBlock]; omega)))
     replace HG := lh (gnew HG.out hg (by omega))
     replace HT := lh (hc.tree HT.out (by omega) (by omega))
     replace HV := lh (hc.votes HV.out (by omega))
     (try replace HM2 := lh (hc.raw HM2.out (by omega)))
     have hlm := LMap.one hm (LedAt.chg HL.out hc (fun i hi e => by have h1 := hi.1; have h2 := hi.2; omega))
     have HLM := lh hlm
     clear hm hg hc HM HL hlm HG6
     refine hK.out _ _ (.inl (fun _ => hS2)) ?_
     replace hS := hS2; clear hK K hS2
     refine pM 12 ?_
     simp only [zz]
     refine pM 14 ?_
     simp only [zz]
     refine rM 15 fun K hK => ?_
     have ot := HT.out.lts
     have ov := HV.out.lt
     have og := HM2.out.lt
     have ol := HLM.out.lt
     go_simp
     obtain ⟨p, hp⟩ : ∃ p, p = wl.heap.size := ⟨_, rfl⟩
     rw [← hp]
     refine nmA1 ?_
     intro wl hb hg
     rw [← hp] at hb
     have hz8 := hg.size
     have hS2 : (fun wr => _) wl := And.intro (hS.1.g hg) (hS.2.g hg)
     replace HOW := lh (HOW.out.kept hg (.inr (by simp [Value.ownBlock])))
     replace HG := lh (g2 HG.out hg)
     replace HT := lh (HT.out.kept hg (by simp))
     replace HV := lh (HV.out.kept hg (by simp))
     replace HM2 := lh (HM2.out.kept hg (by simp))
     replace HLM := lh (HLM.out.g hg)
     have HPB := lh hb
     have hpl := hb.lt
     have HPP := lh (Nat.le_of_eq hp.symm)
     have hp2 : tp < p ∧ tb < p ∧ vb < p ∧ gm < p ∧ lm < p ∧ M10 ≤ p := by omega
     clear hg hb hp
     refine hK.out _ _ (.inl (fun _ => hS2)) ?_
     replace hS := hS2; clear hK K hS2
     try simp only [zz]
     refine pM 16 ?_
     simp only [zz]
     refine pM 17 ?_
     simp only [zz]
     refine dM ?_ _
     go_wp2_with fail
     go_ret2
     have hlast := HG.out.size
     have hpw := HPP.out
     have hmut : w.heap.size ≤ p ∧ w.heap.size ≤ tp ∧ w.heap.size ≤ tb ∧ w.heap.size ≤ vb ∧ w.heap.size ≤ lm ∧ w.heap.size ≤ gm := by omega
     exact ⟨⟨p, tp, tb, vb, lm, gm, some ⟨g5, 0, none⟩, c5, .slice none 0 0, fun _ => False⟩, rfl, st0_at HPB.out HOW.out HT.out HV.out HLM.out HM2.out (by simp; omega) (fun i h1 h2 => by omega) (by omega), rfl, rfl,
      mut_ge hmut, HG.out⟩
   ·skip
    (try have ot := HT.out.lts)
    (try have ov := HV.out.lt)
    (try have om := HM.out.lt)
    (try have ol := HLM.out.lt)
    have hmm := HMM.out
    go_simp
    clear hmm
    obtain ⟨gm, hlm⟩ : ∃ gm, gm = wl.heap.size := ⟨_, rfl⟩
    rw [← hlm]
    have hlm2 : wl.heap.size ≤ gm := by omega
    refine nmAm ?_
    intro wl hm hz3 hg
    rw [← hlm] at hm hz3
    have hz4 := hg.size
    have hz6 : gm < wl.heap.size := by omega
    clear hlm hz3
    have hS2 : (fun wr => _) wl := And.intro (hS.1.g hg) (hS.2.g hg)
    replace HOW := lh (HOW.out.kept hg (.inr (by simp [Value.ownBlock])))
    replace HG := lh (g2 HG.out hg)
    (try replace HG6 := lh (g2 HG6.out hg))
    (try replace HT := lh (HT.out.kept hg (by simp)))
    (try replace HV := lh (HV.out.kept hg (by simp)))
    (try replace HM := lh (HM.out.kept hg (by simp)))
    (try replace HL := lh (LedAt.g HL.out hg))
    (try replace HLM := lh (HLM.out.g hg))
    have HM2 := lh hm
    clear hg hm
    refine hK.out _ _ (.inl (fun _ => hS2)) ?_
    replace hS := hS2; clear hK K hS2
    try simp only [zz]
    refine aM [8, 10] (cM 8 (fun K hK => ?_) (cM 10 (fun K hK => ?_) nM))
    ·skip
     (try have ot := HT.out.lts)
     (try have ov := HV.out.lt)
     (try have og := HM2.out.lt)
     have hmm := HMM.out
     go_simp
     clear hmm
     obtain ⟨lm, hlm⟩ : ∃ lm, lm = wl.heap.size := ⟨_, rfl⟩
     rw [← hlm]
     have hlm2 : wl.heap.size ≤ lm := by omega
     have hlm3 := hS.1.lt
     have hlm4 := hS.2.lt
     have hlm5 := HOW.out.lt g5 rfl
     have hlm6 := HG.out.size
     refine nmAm ?_
     intro wl hm hz3 hg
     rw [← hlm] at hm hz3
     have hz4 := hg.size
     have hz6 : lm < wl.heap.size := by omega
     clear hlm hz3
     have hS2 : (fun wr => _) wl := And.intro (hS.1.g hg) (hS.2.g hg)
     replace HOW := lh (HOW.out.kept hg (.inr (by simp [Value.ownBlock])))
     replace HG := lh (g2 HG.out hg)
     (try replace HG6 := lh (g2 HG6.out hg))
     (try replace HT := lh (HT.out.kept hg (by simp)))
     (try replace HV := lh (HV.out.kept hg (by simp)))
     (try replace HM2 := lh (HM2.out.kept hg (by simp)))
     (try replace HL := lh (LedAt.g HL.out hg))
     have HM := lh hm
     clear hg hm
     refine hK.out _ _ (.inl (fun _ => hS2)) ?_
     replace hS := hS2; clear hK K hS2
     try simp only [zz]
     refine rM 10 fun K hK => ?_
     have ot := HT.out.lts
     have ov := HV.out.lt
     (try have om := HM.out.lt)
     (try have og := HM2.out.lt)
     go_simp
     obtain ⟨N10, hN⟩ : ∃ N, N = wl.heap.size := ⟨_, rfl⟩
     refine (open_calls (a := some ⟨g5, 0, none⟩) (c := c5) (S := S) (B := B) hl2 1).mono ?_
     rintro e wl ⟨v, rfl, hled, hg⟩
     have hz5 := hg.size
     have hled2 := hled.here hl1
     obtain ⟨M10, hM⟩ : ∃ M, M = wl.heap.size := ⟨_, rfl⟩
     rw [← hN, ← hM] at hled2
     have hS2 : (fun wr => _) wl := And.intro (hS.1.g hg) (hS.2.g hg)
     replace HOW := lh (HOW.out.kept hg (.inr (by simp [Value.ownBlock])))
     replace HG := lh (g2 HG.out hg)
     (try replace HG6 := lh (g2 HG6.out hg))
     replace HT := lh (HT.out.kept hg (by simp))
     replace HV := lh (HV.out.kept hg (by simp))
     (try replace HM := lh (HM.out.kept hg (by simp)))
     (try replace HM2 := lh (HM2.out.kept hg (by simp)))
     have HL := lh hled2
     have hN1 : M10 ≤ wl.heap.size := by omega
     have hN2 := HG.out.size
     have hN3 : tp < N10 ∧ tb < N10 ∧ vb < N10 := by omega
     (try have hN4 : lm < N10 := by omega)
     (try have hN5 : gm < N10 := by omega)
     have hN6 : g5 < N10 := by have := HG6.out.size; omega
     clear hg hled hled2 hM hN
     refine hK.out _ _ (.inl (fun _ => hS2)) ?_
     replace hS := hS2; clear hK K hS2
     try simp only [zz]
     refine rM 11 fun K hK => ?_
     refine wp_store_any HM.out _ _ _ 74 (.inr rfl) Tryz.underlying27 Tryz.underlying74 (by unfold maxLen; omega) (k := 1) (by unfold inU; omega) v rfl rfl rfl ?_
     intro wl hm hg
     have hz7 := hg.size
     have hc := Chg.one (S := fun i => i = lm) hg rfl
     have hS2 : (fun wr => _) wl := And.intro (hS.1.kept hg (by simp; omega)) (hS.2.kept hg (by simp; omega))
     replace HOW := lh (HOW.out.kept hg (.inr (by simp [Value.ownBlock]; omega)))
     replace HG := lh (gnew HG.out hg (by omega))
     replace HT := lh (hc.tree HT.out (by omega) (by omega))
     replace HV := lh (hc.votes HV.out (by omega))
     (try replace HM2 := lh (hc.raw HM2.out (by omega)))
     have hlm := LMap.one hm (LedAt.chg HL.out hc (fun i hi e => by have h1 := hi.1; have h2 := hi.2; omega))
     have HLM := lh hlm
     clear hm hg hc HM HL hlm HG6
     refine hK.out _ _ (.inl (fun _ => hS2)) ?_
     replace hS := hS2; clear hK K hS2
     refine pM 12 ?_
     simp only [zz]
     refine pM 14 ?_
     simp only [zz]
     refine rM 15 fun K hK => ?_
     have ot := HT.out.lts
     have ov := HV.out.lt
     have og := HM2.out.lt
     have ol := HLM.out.lt
     go_simp
     obtain ⟨p, hp⟩ : ∃ p, p = wl.heap.size := ⟨_, rfl⟩
     rw [← hp]
     refine nmA1 ?_
     intro wl hb hg
     rw [← hp] at hb
     have hz8 := hg.size
     have hS2 : (fun wr => _) wl := And.intro (hS.1.g hg) (hS.2.g hg)
     replace HOW := lh (HOW.out.kept hg (.inr (by simp [Value.ownBlock])))
     replace HG := lh (g2 HG.out hg)
     replace HT := lh (HT.out.kept hg (by simp))
     replace HV := lh (HV.out.kept hg (by simp))
     replace HM2 := lh (HM2.out.kept hg (by simp))
     replace HLM := lh (HLM.out.g hg)
     have HPB := lh hb
     have hpl := hb.lt
     have HPP := lh (Nat.le_of_eq hp.symm)
     have hp2 : tp < p ∧ tb < p ∧ vb < p ∧ gm < p ∧ lm < p ∧ M10 ≤ p := by omega
     clear hg hb hp
     refine hK.out _ _ (.inl (fun _ => hS2)) ?_
     replace hS := hS2; clear hK K hS2
     try simp only [zz]
     refine pM 16 ?_
     simp only [zz]
     refine pM 17 ?_
     simp only [zz]
     refine dM ?_ _
     go_wp2_with fail
     go_ret2
     have hlast := HG.out.size
     have hpw := HPP.out
     have hmut : w.heap.size ≤ p ∧ w.heap.size ≤ tp ∧ w.heap.size ≤ tb ∧ w.heap.size ≤ vb ∧ w.heap.size ≤ lm ∧ w.heap.size ≤ gm := by omega
     exact ⟨⟨p, tp, tb, vb, lm, gm, some ⟨g5, 0, none⟩, c5, .slice none 0 0, fun _ => False⟩, rfl, st0_at HPB.out HOW.out HT.out HV.out HLM.out HM2.out (by simp; omega) (fun i h1 h2 => by omega) (by omega), rfl, rfl,
      mut_ge hmut, HG.out⟩
    ·skip
     have ot := HT.out.lts
     have ov := HV.out.lt
     (try have om := HM.out.lt)
     (try have og := HM2.out.lt)
     go_simp
     obtain ⟨N10, hN⟩ : ∃ N, N = wl.heap.size := ⟨_, rfl⟩
     refine (open_calls (a := some ⟨g5, 0, none⟩) (c := c5) (S := S) (B := B) hl2 1).mono ?_
     rintro e wl ⟨v, rfl, hled, hg⟩
     have hz5 := hg.size
     have hled2 := hled.here hl1
     obtain ⟨M10, hM⟩ : ∃ M, M = wl.heap.size := ⟨_, rfl⟩
     rw [← hN, ← hM] at hled2
     have hS2 : (fun wr => _) wl := And.intro (hS.1.g hg) (hS.2.g hg)
     replace HOW := lh (HOW.out.kept hg (.inr (by simp [Value.ownBlock])))
     replace HG := lh (g2 HG.out hg)
     (try replace HG6 := lh (g2 HG6.out hg))
     replace HT := lh (HT.out.kept hg (by simp))
     replace HV := lh (HV.out.kept hg (by simp))
     (try replace HM := lh (HM.out.kept hg (by simp)))
     (try replace HM2 := lh (HM2.out.kept hg (by simp)))
     have HL := lh hled2
     have hN1 : M10 ≤ wl.heap.size := by omega
     have hN2 := HG.out.size
     have hN3 : tp < N10 ∧ tb < N10 ∧ vb < N10 := by omega
     (try have hN4 : lm < N10 := by omega)
     (try have hN5 : gm < N10 := by omega)
     have hN6 : g5 < N10 := by have := HG6.out.size; omega
     clear hg hled hled2 hM hN
     refine hK.out _ _ (.inl (fun _ => hS2)) ?_
     replace hS := hS2; clear hK K hS2
     try simp only [zz]
     refine rM 8 fun K hK => ?_
     (try have ot := HT.out.lts)
     (try have ov := HV.out.lt)
     (try have og := HM2.out.lt)
     have hmm := HMM.out
     go_simp
     clear hmm
     obtain ⟨lm, hlm⟩ : ∃ lm, lm = wl.heap.size := ⟨_, rfl⟩
     rw [← hlm]
     have hlm2 : wl.heap.size ≤ lm := by omega
     have hlm3 := hS.1.lt
     have hlm4 := hS.2.lt
     have hlm5 := HOW.out.lt g5 rfl
     have hlm6 := HG.out.size
     refine nmAm ?_
     intro wl hm hz3 hg
     rw [← hlm] at hm hz3
     have hz4 := hg.size
     have hz6 : lm < wl.heap.size := by omega
     clear hlm hz3
     have hS2 : (fun wr => _) wl := And.intro (hS.1.g hg) (hS.2.g hg)
     replace HOW := lh (HOW.out.kept hg (.inr (by simp [Value.ownBlock])))
     replace HG := lh (g2 HG.out hg)
     (try replace HG6 := lh (g2 HG6.out hg))
     (try replace HT := lh (HT.out.kept hg (by simp)))
     (try replace HV := lh (HV.out.kept hg (by simp)))
     (try replace HM2 := lh (HM2.out.kept hg (by simp)))
     (try replace HL := lh (LedAt.g HL.out hg))
     have HM := lh hm
     clear hg hm
     refine hK.out _ _ (.inl (fun _ => hS2)) ?_
     replace hS := hS2; clear hK K hS2
     try simp only [zz]
     refine rM 11 fun K hK => ?_
     refine wp_store_any HM.out _ _ _ 74 (.inr rfl) Tryz.underlying27 Tryz.underlying74 (by unfold maxLen; omega) (k := 1) (by unfold inU; omega) v rfl rfl rfl ?_
     intro wl hm hg
     have hz7 := hg.size
     have hc := Chg.one (S := fun i => i = lm) hg rfl
     have hS2 : (fun wr => _) wl := And.intro (hS.1.kept hg (by simp; omega)) (hS.2.kept hg (by simp; omega))
     replace HOW := lh (HOW.out.kept hg (.inr (by simp [Value.ownBlock]; omega)))
     replace HG := lh (gnew HG.out hg (by omega))
     replace HT := lh (hc.tree HT.out (by omega) (by omega))
     replace HV := lh (hc.votes HV.out (by omega))
     (try replace HM2 := lh (hc.raw HM2.out (by omega)))
     have hlm := LMap.one hm (LedAt.chg HL.out hc (fun i hi e => by have h1 := hi.1; have h2 := hi.2; omega))
     have HLM := lh hlm
     clear hm hg hc HM HL hlm HG6
     refine hK.out _ _ (.inl (fun _ => hS2)) ?_
     replace hS := hS2; clear hK K hS2
     refine pM 12 ?_
     simp only [zz]
     refine pM 14 ?_
     simp only [zz]
     refine rM 15 fun K hK => ?_
     have ot := HT.out.lts
     have ov := HV.out.lt
     have og := HM2.out.lt
     have ol := HLM.out.lt
     go_simp
     obtain ⟨p, hp⟩ : ∃ p, p = wl.heap.size := ⟨_, rfl⟩
     rw [← hp]
     refine nmA1 ?_
     intro wl hb hg
     rw [← hp] at hb
     have hz8 := hg.size
     have hS2 : (fun wr => _) wl := And.intro (hS.1.g hg) (hS.2.g hg)
     replace HOW := lh (HOW.out.kept hg (.inr (by simp [Value.ownBlock])))
     replace HG := lh (g2 HG.out hg)
     replace HT := lh (HT.out.kept hg (by simp))
     replace HV := lh (HV.out.kept hg (by simp))
     replace HM2 := lh (HM2.out.kept hg (by simp))
     replace HLM := lh (HLM.out.g hg)
     have HPB := lh hb
     have hpl := hb.lt
     have HPP := lh (Nat.le_of_eq hp.symm)
     have hp2 : tp < p ∧ tb < p ∧ vb < p ∧ gm < p ∧ lm < p ∧ M10 ≤ p := by omega
     clear hg hb hp
     refine hK.out _ _ (.inl (fun _ => hS2)) ?_
     replace hS := hS2; clear hK K hS2
     try simp only [zz]
     refine pM 16 ?_
     simp only [zz]
     refine pM 17 ?_
     simp only [zz]
     refine dM ?_ _
     go_wp2_with fail
     go_ret2
     have hlast := HG.out.size
     have hpw := HPP.out
     have hmut : w.heap.size ≤ p ∧ w.heap.size ≤ tp ∧ w.heap.size ≤ tb ∧ w.heap.size ≤ vb ∧ w.heap.size ≤ lm ∧ w.heap.size ≤ gm := by omega
     exact ⟨⟨p, tp, tb, vb, lm, gm, some ⟨g5, 0, none⟩, c5, .slice none 0 0, fun _ => False⟩, rfl, st0_at HPB.out HOW.out HT.out HV.out HLM.out HM2.out (by simp; omega) (fun i h1 h2 => by omega) (by omega), rfl, rfl,
      mut_ge hmut, HG.out⟩
  ·skip
   (try have ot := HT.out.lts)
   (try have ov := HV.out.lt)
   (try have og := HM2.out.lt)
   have hmm := HMM.out
   go_simp
   clear hmm
   obtain ⟨lm, hlm⟩ : ∃ lm, lm = wl.heap.size := ⟨_, rfl⟩
   rw [← hlm]
   have hlm2 : wl.heap.size ≤ lm := by omega
   have hlm3 := hS.1.lt
   have hlm4 := hS.2.lt
   have hlm5 := HOW.out.lt g5 rfl
   have hlm6 := HG.out.size
   refine nmAm ?_
   intro wl hm hz3 hg
   rw [← hlm] at hm hz3
   have hz4 := hg.size
   have hz6 : lm < wl.heap.size := by omega
   clear hlm hz3
   have hS2 : (fun wr => _) wl := And.intro (hS.1.g hg) (hS.2.g hg)
   replace HOW := lh (HOW.out.kept hg (.inr (by simp [Value.ownBlock])))
   replace HG := lh (g2 HG.out hg)
   (try replace HG6 := lh (g2 HG6.out hg))
   (try replace HT := lh (HT.out.kept hg (by simp)))
   (try replace HV := lh (HV.out.kept hg (by simp)))
   (try replace HM2 := lh (HM2.out.kept hg (by simp)))
   (try replace HL := lh (LedAt.g HL.out hg))
   have HM := lh hm
   clear hg hm
   refine hK.out _ _ (.inl (fun _ => hS2)) ?_
   replace hS := hS2; clear hK K hS2
   try simp only [zz]
   refine aM [5, 13] (cM 5 (fun K hK => ?_) (cM 13 (fun K hK => ?_) nM))
   ·skip
    (try have om := HM.out.lt)
    (try have og := HM2.out.lt)
    have ot := HT.out.lts
    go_simp
    refine (vof_calls _ bs.length (by omega)).mono ?_
    rintro e wl ⟨vb, rfl, hv, hvb, hg⟩
    have hz2 := hg.size
    have hS2 : (fun wr => _) wl := And.intro (hS.1.g hg) (hS.2.g hg)
    replace HOW := lh (HOW.out.kept hg (.inr (by simp [Value.ownBlock])))
    replace HG := lh (g2 HG.out hg)
    (try replace HG6 := lh (g2 HG6.out hg))
    replace HT := lh (HT.out.kept hg (by simp))
    (try replace HM := lh (HM.out.kept hg (by simp)))
    (try replace HM2 := lh (HM2.out.kept hg (by simp)))
    have HV := lh hv
    have hlt2 := hv.lt
    clear hg hv
    refine hK.out _ _ (.inl (fun _ => hS2)) ?_
    replace hS := hS2; clear hK K hS2
    try simp only [zz]
    refine aM [10, 13] (cM 10 (fun K hK => ?_) (cM 13 (fun K hK => ?_) nM))
    ·skip
     have ot := HT.out.lts
     have ov := HV.out.lt
     (try have om := HM.out.lt)
     (try have og := HM2.out.lt)
     go_simp
     obtain ⟨N10, hN⟩ : ∃ N, N = wl.heap.size := ⟨_, rfl⟩
     refine (open_calls (a := some ⟨g5, 0, none⟩) (c := c5) (S := S) (B := B) hl2 1).mono ?_
     rintro e wl ⟨v, rfl, hled, hg⟩
     have hz5 := hg.size
     have hled2 := hled.here hl1
     obtain ⟨M10, hM⟩ : ∃ M, M = wl.heap.size := ⟨_, rfl⟩
     rw [← hN, ← hM] at hled2
     have hS2 : (fun wr => _) wl := And.intro (hS.1.g hg) (hS.2.g hg)
     replace HOW := lh (HOW.out.kept hg (.inr (by simp [Value.ownBlock])))
     replace HG := lh (g2 HG.out hg)
     (try replace HG6 := lh (g2 HG6.out hg))
     replace HT := lh (HT.out.kept hg (by simp))
     replace HV := lh (HV.out.kept hg (by simp))
     (try replace HM := lh (HM.out.kept hg (by simp)))
     (try replace HM2 := lh (HM2.out.kept hg (by simp)))
     have HL := lh hled2
     have hN1 : M10 ≤ wl.heap.size := by omega
     have hN2 := HG.out.size
     have hN3 : tp < N10 ∧ tb < N10 ∧ vb < N10 := by omega
     (try have hN4 : lm < N10 := by omega)
     (try have hN5 : gm < N10 := by omega)
     have hN6 : g5 < N10 := by have := HG6.out.size; omega
     clear hg hled hled2 hM hN
     refine hK.out _ _ (.inl (fun _ => hS2)) ?_
     replace hS := hS2; clear hK K hS2
     try simp only [zz]
     refine aM [11, 13] (cM 11 (fun K hK => ?_) (cM 13 (fun K hK => ?_) nM))
     ·skip
      refine wp_store_any HM.out _ _ _ 74 (.inr rfl) Tryz.underlying27 Tryz.underlying74 (by unfold maxLen; omega) (k := 1) (by unfold inU; omega) v rfl rfl rfl ?_
      intro wl hm hg
      have hz7 := hg.size
      have hc := Chg.one (S := fun i => i = lm) hg rfl
      have hS2 : (fun wr => _) wl := And.intro (hS.1.kept hg (by simp; omega)) (hS.2.kept hg (by simp; omega))
      replace HOW := lh (HOW.out.kept hg (.inr (by simp [Value.ownBlock]; omega)))
      replace HG := lh (gnew HG.out hg (by omega))
      replace HT := lh (hc.tree HT.out (by omega) (by omega))
      replace HV := lh (hc.votes HV.out (by omega))
      (try replace HM2 := lh (hc.raw HM2.out (by omega)))
      have hlm := LMap.one hm (LedAt.chg HL.out hc (fun i hi e => by have h1 := hi.1; have h2 := hi.2; omega))
      have HLM := lh hlm
      clear hm hg hc HM HL hlm HG6
      refine hK.out _ _ (.inl (fun _ => hS2)) ?_
      replace hS := hS2; clear hK K hS2
      refine pM 12 ?_
      simp only [zz]
      refine rM 13 fun K hK => ?_
      (try have ot := HT.out.lts)
      (try have ov := HV.out.lt)
      (try have om := HM.out.lt)
      (try have ol := HLM.out.lt)
      have hmm := HMM.out
      go_simp
      clear hmm
      obtain ⟨gm, hlm⟩ : ∃ gm, gm = wl.heap.size := ⟨_, rfl⟩
      rw [← hlm]
      have hlm2 : wl.heap.size ≤ gm := by omega
      refine nmAm ?_
      intro wl hm hz3 hg
      rw [← hlm] at hm hz3
      have hz4 := hg.size
      have hz6 : gm < wl.heap.size := by omega
      clear hlm hz3
      have hS2 : (fun wr => _) wl := And.intro (hS.1.g hg) (hS.2.g hg)
      replace HOW := lh (HOW.out.kept hg (.inr (by simp [Value.ownBlock])))
      replace HG := lh (g2 HG.out hg)
      (try replace HG6 := lh (g2 HG6.out hg))
      (try replace HT := lh (HT.out.kept hg (by simp)))
      (try replace HV := lh (HV.out.kept hg (by simp)))
      (try replace HM := lh (HM.out.kept hg (by simp)))
      (try replace HL := lh (LedAt.g HL.out hg))
      (try replace HLM := lh (HLM.out.g hg))
      have HM2 := lh hm
      clear hg hm
      refine hK.out _ _ (.inl (fun _ => hS2)) ?_
      replace hS := hS2; clear hK K hS2
      try simp only [zz]
      refine pM 14 ?_
      simp only [zz]
      refine rM 15 fun K hK => ?_
      have ot := HT.out.lts
      have ov := HV.out.lt
      have og := HM2.out.lt
      have ol := HLM.out.lt
      go_simp
      obtain ⟨p, hp⟩ : ∃ p, p = wl.heap.size := ⟨_, rfl⟩
      rw [← hp]
      refine nmA1 ?_
      intro wl hb hg
      rw [← hp] at hb
      have hz8 := hg.size
      have hS2 : (fun wr => _) wl := And.intro (hS.1.g hg) (hS.2.g hg)
      replace HOW := lh (HOW.out.kept hg (.inr (by simp [Value.ownBlock])))
      replace HG := lh (g2 HG.out hg)
      replace HT := lh (HT.out.kept hg (by simp))
      replace HV := lh (HV.out.kept hg (by simp))
      replace HM2 := lh (HM2.out.kept hg (by simp))
      replace HLM := lh (HLM.out.g hg)
      have HPB := lh hb
      have hpl := hb.lt
      have HPP := lh (Nat.le_of_eq hp.symm)
      have hp2 : tp < p ∧ tb < p ∧ vb < p ∧ gm < p ∧ lm < p ∧ M10 ≤ p := by omega
      clear hg hb hp
      refine hK.out _ _ (.inl (fun _ => hS2)) ?_
      replace hS := hS2; clear hK K hS2
      try simp only [zz]
      refine pM 16 ?_
      simp only [zz]
      refine pM 17 ?_
      simp only [zz]
      refine dM ?_ _
      go_wp2_with fail
      go_ret2
      have hlast := HG.out.size
      have hpw := HPP.out
      have hmut : w.heap.size ≤ p ∧ w.heap.size ≤ tp ∧ w.heap.size ≤ tb ∧ w.heap.size ≤ vb ∧ w.heap.size ≤ lm ∧ w.heap.size ≤ gm := by omega
      exact ⟨⟨p, tp, tb, vb, lm, gm, some ⟨g5, 0, none⟩, c5, .slice none 0 0, fun _ => False⟩, rfl, st0_at HPB.out HOW.out HT.out HV.out HLM.out HM2.out (by simp; omega) (fun i h1 h2 => by omega) (by omega), rfl, rfl,
       mut_ge hmut, HG.out⟩
     ·skip
      (try have ot := HT.out.lts)
      (try have ov := HV.out.lt)
      (try have om := HM.out.lt)
      (try have ol := HLM.out.lt)
      have hmm := HMM.out
      go_simp
      clear hmm
      obtain ⟨gm, hlm⟩ : ∃ gm, gm = wl.heap.size := ⟨_, rfl⟩
      rw [← hlm]
      have hlm2 : wl.heap.size ≤ gm := by omega
      refine nmAm ?_
      intro wl hm hz3 hg
      rw [← hlm] at hm hz3
      have hz4 := hg.size
      have hz6 : gm < wl.heap.size := by omega
      clear hlm hz3
      have hS2 : (fun wr => _) wl := And.intro (hS.1.g hg) (hS.2.g hg)
      replace HOW := lh (HOW.out.kept hg (.inr (by simp [Value.ownBlock])))
      replace HG := lh (g2 HG.out hg)
      (try replace HG6 := lh (g2 HG6.out hg))
      (try replace HT := lh (HT.out.kept hg (by simp)))
      (try replace HV := lh (HV.out.kept hg (by simp)))
      (try replace HM := lh (HM.out.kept hg (by simp)))
      (try replace HL := lh (LedAt.g HL.out hg))
      (try replace HLM := lh (HLM.out.g hg))
      have HM2 := lh hm
      clear hg hm
      refine hK.out _ _ (.inl (fun _ => hS2)) ?_
      replace hS := hS2; clear hK K hS2
      try simp only [zz]
      refine rM 11 fun K hK => ?_
      refine wp_store_any HM.out _ _ _ 74 (.inr rfl) Tryz.underlying27 Tryz.underlying74 (by unfold maxLen; omega) (k := 1) (by unfold inU; omega) v rfl rfl rfl ?_
      intro wl hm hg
      have hz7 := hg.size
      have hc := Chg.one (S := fun i => i = lm) hg rfl
      have hS2 : (fun wr => _) wl := And.intro (hS.1.kept hg (by simp; omega)) (hS.2.kept hg (by simp; omega))
      replace HOW := lh (HOW.out.kept hg (.inr (by simp [Value.ownBlock]; omega)))
      replace HG := lh (gnew HG.out hg (by omega))
      replace HT := lh (hc.tree HT.out (by omega) (by omega))
      replace HV := lh (hc.votes HV.out (by omega))
      (try replace HM2 := lh (hc.raw HM2.out (by omega)))
      have hlm := LMap.one hm (LedAt.chg HL.out hc (fun i hi e => by have h1 := hi.1; have h2 := hi.2; omega))
      have HLM := lh hlm
      clear hm hg hc HM HL hlm HG6
      refine hK.out _ _ (.inl (fun _ => hS2)) ?_
      replace hS := hS2; clear hK K hS2
      refine pM 12 ?_
      simp only [zz]
      refine pM 14 ?_
      simp only [zz]
      refine rM 15 fun K hK => ?_
      have ot := HT.out.lts
      have ov := HV.out.lt
      have og := HM2.out.lt
      have ol := HLM.out.lt
      go_simp
      obtain ⟨p, hp⟩ : ∃ p, p = wl.heap.size := ⟨_, rfl⟩
      rw [← hp]
      refine nmA1 ?_
      intro wl hb hg
      rw [← hp] at hb
      have hz8 := hg.size
      have hS2 : (fun wr => _) wl := And.intro (hS.1.g hg) (hS.2.g hg)
      replace HOW := lh (HOW.out.kept hg (.inr (by simp [Value.ownBlock])))
      replace HG := lh (g2 HG.out hg)
      replace HT := lh (HT.out.kept hg (by simp))
      replace HV := lh (HV.out.kept hg (by simp))
      replace HM2 := lh (HM2.out.kept hg (by simp))
      replace HLM := lh (HLM.out.g hg)
      have HPB := lh hb
      have hpl := hb.lt
      have HPP := lh (Nat.le_of_eq hp.symm)
      have hp2 : tp < p ∧ tb < p ∧ vb < p ∧ gm < p ∧ lm < p ∧ M10 ≤ p := by omega
      clear hg hb hp
      refine hK.out _ _ (.inl (fun _ => hS2)) ?_
      replace hS := hS2; clear hK K hS2
      try simp only [zz]
      refine pM 16 ?_
      simp only [zz]
      refine pM 17 ?_
      simp only [zz]
      refine dM ?_ _
      go_wp2_with fail
      go_ret2
      have hlast := HG.out.size
      have hpw := HPP.out
      have hmut : w.heap.size ≤ p ∧ w.heap.size ≤ tp ∧ w.heap.size ≤ tb ∧ w.heap.size ≤ vb ∧ w.heap.size ≤ lm ∧ w.heap.size ≤ gm := by omega
      exact ⟨⟨p, tp, tb, vb, lm, gm, some ⟨g5, 0, none⟩, c5, .slice none 0 0, fun _ => False⟩, rfl, st0_at HPB.out HOW.out HT.out HV.out HLM.out HM2.out (by simp; omega) (fun i h1 h2 => by omega) (by omega), rfl, rfl,
       mut_ge hmut, HG.out⟩
    ·skip
     (try have ot := HT.out.lts)
     (try have ov := HV.out.lt)
     (try have om := HM.out.lt)
     (try have ol := HLM.out.lt)
     have hmm := HMM.out
     go_simp
     clear hmm
     obtain ⟨gm, hlm⟩ : ∃ gm, gm = wl.heap.size := ⟨_, rfl⟩
     rw [← hlm]
     have hlm2 : wl.heap.size ≤ gm := by omega
     refine nmAm ?_
     intro wl hm hz3 hg
     rw [← hlm] at hm hz3
     have hz4 := hg.size
     have hz6 : gm < wl.heap.size := by omega
     clear hlm hz3
     have hS2 : (fun wr => _) wl := And.intro (hS.1.g hg) (hS.2.g hg)
     replace HOW := lh (HOW.out.kept hg (.inr (by simp [Value.ownBlock])))
     replace HG := lh (g2 HG.out hg)
     (try replace HG6 := lh (g2 HG6.out hg))
     (try replace HT := lh (HT.out.kept hg (by simp)))
     (try replace HV := lh (HV.out.kept hg (by simp)))
     (try replace HM := lh (HM.out.kept hg (by simp)))
     (try replace HL := lh (LedAt.g HL.out hg))
     (try replace HLM := lh (HLM.out.g hg))
     have HM2 := lh hm
     clear hg hm
     refine hK.out _ _ (.inl (fun _ => hS2)) ?_
     replace hS := hS2; clear hK K hS2
     try simp only [zz]
     refine rM 10 fun K hK => ?_
     have ot := HT.out.lts
     have ov := HV.out.lt
     (try have om := HM.out.lt)
     (try have og := HM2.out.lt)
     go_simp
     obtain ⟨N10, hN⟩ : ∃ N, N = wl.heap.size := ⟨_, rfl⟩
     refine (open_calls (a := some ⟨g5, 0, none⟩) (c := c5) (S := S) (B := B) hl2 1).mono ?_
     rintro e wl ⟨v, rfl, hled, hg⟩
     have hz5 := hg.size
     have hled2 := hled.here hl1
     obtain ⟨M10, hM⟩ : ∃ M, M = wl.heap.size := ⟨_, rfl⟩
     rw [← hN, ← hM] at hled2
     have hS2 : (fun wr => _) wl := And.intro (hS.1.g hg) (hS.2.g hg)
     replace HOW := lh (HOW.out.kept hg (.inr (by simp [Value.ownBlock])))
     replace HG := lh (g2 HG.out hg)
     (try replace HG6 := lh (g2 HG6.out hg))
     replace HT := lh (HT.out.kept hg (by simp))
     replace HV := lh (HV.out.kept hg (by simp))
     (try replace HM := lh (HM.out.kept hg (by simp)))
     (try replace HM2 := lh (HM2.out.kept hg (by simp)))
     have HL := lh hled2
     have hN1 : M10 ≤ wl.heap.size := by omega
     have hN2 := HG.out.size
     have hN3 : tp < N10 ∧ tb < N10 ∧ vb < N10 := by omega
     (try have hN4 : lm < N10 := by omega)
     (try have hN5 : gm < N10 := by omega)
     have hN6 : g5 < N10 := by have := HG6.out.size; omega
     clear hg hled hled2 hM hN
     refine hK.out _ _ (.inl (fun _ => hS2)) ?_
     replace hS := hS2; clear hK K hS2
     try simp only [zz]
     refine rM 11 fun K hK => ?_
     refine wp_store_any HM.out _ _ _ 74 (.inr rfl) Tryz.underlying27 Tryz.underlying74 (by unfold maxLen; omega) (k := 1) (by unfold inU; omega) v rfl rfl rfl ?_
     intro wl hm hg
     have hz7 := hg.size
     have hc := Chg.one (S := fun i => i = lm) hg rfl
     have hS2 : (fun wr => _) wl := And.intro (hS.1.kept hg (by simp; omega)) (hS.2.kept hg (by simp; omega))
     replace HOW := lh (HOW.out.kept hg (.inr (by simp [Value.ownBlock]; omega)))
     replace HG := lh (gnew HG.out hg (by omega))
     replace HT := lh (hc.tree HT.out (by omega) (by omega))
     replace HV := lh (hc.votes HV.out (by omega))
     (try replace HM2 := lh (hc.raw HM2.out (by omega)))
     have hlm := LMap.one hm (LedAt.chg HL.out hc (fun i hi e => by have h1 := hi.1; have h2 := hi.2; omega))
     have HLM := lh hlm
     clear hm hg hc HM HL hlm HG6
     refine hK.out _ _ (.inl (fun _ => hS2)) ?_
     replace hS := hS2; clear hK K hS2
     refine pM 12 ?_
     simp only [zz]
     refine pM 14 ?_
     simp only [zz]
     refine rM 15 fun K hK => ?_
     have ot := HT.out.lts
     have ov := HV.out.lt
     have og := HM2.out.lt
     have ol := HLM.out.lt
     go_simp
     obtain ⟨p, hp⟩ : ∃ p, p = wl.heap.size := ⟨_, rfl⟩
     rw [← hp]
     refine nmA1 ?_
     intro wl hb hg
     rw [← hp] at hb
     have hz8 := hg.size
     have hS2 : (fun wr => _) wl := And.intro (hS.1.g hg) (hS.2.g hg)
     replace HOW := lh (HOW.out.kept hg (.inr (by simp [Value.ownBlock])))
     replace HG := lh (g2 HG.out hg)
     replace HT := lh (HT.out.kept hg (by simp))
     replace HV := lh (HV.out.kept hg (by simp))
     replace HM2 := lh (HM2.out.kept hg (by simp))
     replace HLM := lh (HLM.out.g hg)
     have HPB := lh hb
     have hpl := hb.lt
     have HPP := lh (Nat.le_of_eq hp.symm)
     have hp2 : tp < p ∧ tb < p ∧ vb < p ∧ gm < p ∧ lm < p ∧ M10 ≤ p := by omega
     clear hg hb hp
     refine hK.out _ _ (.inl (fun _ => hS2)) ?_
     replace hS := hS2; clear hK K hS2
     try simp only [zz]
     refine pM 16 ?_
     simp only [zz]
     refine pM 17 ?_
     simp only [zz]
     refine dM ?_ _
     go_wp2_with fail
     go_ret2
     have hlast := HG.out.size
     have hpw := HPP.out
     have hmut : w.heap.size ≤ p ∧ w.heap.size ≤ tp ∧ w.heap.size ≤ tb ∧ w.heap.size ≤ vb ∧ w.heap.size ≤ lm ∧ w.heap.size ≤ gm := by omega
     exact ⟨⟨p, tp, tb, vb, lm, gm, some ⟨g5, 0, none⟩, c5, .slice none 0 0, fun _ => False⟩, rfl, st0_at HPB.out HOW.out HT.out HV.out HLM.out HM2.out (by simp; omega) (fun i h1 h2 => by omega) (by omega), rfl, rfl,
      mut_ge hmut, HG.out⟩
   ·skip
    (try have ot := HT.out.lts)
    (try have ov := HV.out.lt)
    (try have om := HM.out.lt)
    (try have ol := HLM.out.lt)
    have hmm := HMM.out
    go_simp
    clear hmm
    obtain ⟨gm, hlm⟩ : ∃ gm, gm = wl.heap.size := ⟨_, rfl⟩
    rw [← hlm]
    have hlm2 : wl.heap.size ≤ gm := by omega
    refine nmAm ?_
    intro wl hm hz3 hg
    rw [← hlm] at hm hz3
    have hz4 := hg.size
    have hz6 : gm < wl.heap.size := by omega
    clear hlm hz3
    have hS2 : (fun wr => _) wl := And.intro (hS.1.g hg) (hS.2.g hg)
    replace HOW := lh (HOW.out.kept hg (.inr (by simp [Value.ownBlock])))
    replace HG := lh (g2 HG.out hg)
    (try replace HG6 := lh (g2 HG6.out hg))
    (try replace HT := lh (HT.out.kept hg (by simp)))
    (try replace HV := lh (HV.out.kept hg (by simp)))
    (try replace HM := lh (HM.out.kept hg (by simp)))
    (try replace HL := lh (LedAt.g HL.out hg))
    (try replace HLM := lh (HLM.out.g hg))
    have HM2 := lh hm
    clear hg hm
    refine hK.out _ _ (.inl (fun _ => hS2)) ?_
    replace hS := hS2; clear hK K hS2
    try simp only [zz]
    refine rM 5 fun K hK => ?_
    (try have om := HM.out.lt)
    (try have og := HM2.out.lt)
    have ot := HT.out.lts
    go_simp
    refine (vof_calls _ bs.length (by omega)).mono ?_
    rintro e wl ⟨vb, rfl, hv, hvb, hg⟩
    have hz2 := hg.size
    have hS2 : (fun wr => _) wl := And.intro (hS.1.g hg) (hS.2.g hg)
    replace HOW := lh (HOW.out.kept hg (.inr (by simp [Value.ownBlock])))
    replace HG := lh (g2 HG.out hg)
    (try replace HG6 := lh (g2 HG6.out hg))
    replace HT := lh (HT.out.kept hg (by simp))
    (try replace HM := lh (HM.out.kept hg (by simp)))
    (try replace HM2 := lh (HM2.out.kept hg (by simp)))
    have HV := lh hv
    have hlt2 := hv.lt
    clear hg hv
    refine hK.out _ _ (.inl (fun _ => hS2)) ?_
    replace hS := hS2; clear hK K hS2
    try simp only [zz]
    refine rM 10 fun K hK => ?_
    have ot := HT.out.lts
    have ov := HV.out.lt
    (try have om := HM.out.lt)
    (try have og := HM2.out.lt)
    go_simp
    obtain ⟨N10, hN⟩ : ∃ N, N = wl.heap.size := ⟨_, rfl⟩
    refine (open_calls (a := some ⟨g5, 0, none⟩) (c := c5) (S := S) (B := B) hl2 1).mono ?_
    rintro e wl ⟨v, rfl, hled, hg⟩
    have hz5 := hg.size
    have hled2 := hled.here hl1
    obtain ⟨M10, hM⟩ : ∃ M, M = wl.heap.size := ⟨_, rfl⟩
    rw [← hN, ← hM] at hled2
    have hS2 : (fun wr => _) wl := And.intro (hS.1.g hg) (hS.2.g hg)
    replace HOW := lh (HOW.out.kept hg (.inr (by simp [Value.ownBlock])))
    replace HG := lh (g2 HG.out hg)
    (try replace HG6 := lh (g2 HG6.out hg))
    replace HT := lh (HT.out.kept hg (by simp))
    replace HV := lh (HV.out.kept hg (by simp))
    (try replace HM := lh (HM.out.kept hg (by simp)))
    (try replace HM2 := lh (HM2.out.kept hg (by simp)))
    have HL := lh hled2
    have hN1 : M10 ≤ wl.heap.size := by omega
    have hN2 := HG.out.size
    have hN3 : tp < N10 ∧ tb < N10 ∧ vb < N10 := by omega
    (try have hN4 : lm < N10 := by omega)
    (try have hN5 : gm < N10 := by omega)
    have hN6 : g5 < N10 := by have := HG6.out.size; omega
    clear hg hled hled2 hM hN
    refine hK.out _ _ (.inl (fun _ => hS2)) ?_
    replace hS := hS2; clear hK K hS2
    try simp only [zz]
    refine rM 11 fun K hK => ?_
    refine wp_store_any HM.out _ _ _ 74 (.inr rfl) Tryz.underlying27 Tryz.underlying74 (by unfold maxLen; omega) (k := 1) (by unfold inU; omega) v rfl rfl rfl ?_
    intro wl hm hg
    have hz7 := hg.size
    have hc := Chg.one (S := fun i => i = lm) hg rfl
    have hS2 : (fun wr => _) wl := And.intro (hS.1.kept hg (by simp; omega)) (hS.2.kept hg (by simp; omega))
    replace HOW := lh (HOW.out.kept hg (.inr (by simp [Value.ownBlock]; omega)))
    replace HG := lh (gnew HG.out hg (by omega))
    replace HT := lh (hc.tree HT.out (by omega) (by omega))
    replace HV := lh (hc.votes HV.out (by omega))
    (try replace HM2 := lh (hc.raw HM2.out (by omega)))
    have hlm := LMap.one hm (LedAt.chg HL.out hc (fun i hi e => by have h1 := hi.1; have h2 := hi.2; omega))
    have HLM := lh hlm
    clear hm hg hc HM HL hlm HG6
    refine hK.out _ _ (.inl (fun _ => hS2)) ?_
    replace hS := hS2; clear hK K hS2
    refine pM 12 ?_
    simp only [zz]
    refine pM 14 ?_
    simp only [zz]
    refine rM 15 fun K hK => ?_
    have ot := HT.out.lts
    have ov := HV.out.lt
    have og := HM2.out.lt
    have ol := HLM.out.lt
    go_simp
    obtain ⟨p, hp⟩ : ∃ p, p = wl.heap.size := ⟨_, rfl⟩
    rw [← hp]
    refine nmA1 ?_
    intro wl hb hg
    rw [← hp] at hb
    have hz8 := hg.size
    have hS2 : (fun wr => _) wl := And.intro (hS.1.g hg) (hS.2.g hg)
    replace HOW := lh (HOW.out.kept hg (.inr (by simp [Value.ownBlock])))
    replace HG := lh (g2 HG.out hg)
    replace HT := lh (HT.out.kept hg (by simp))
    replace HV := lh (HV.out.kept hg (by simp))
    replace HM2 := lh (HM2.out.kept hg (by simp))
    replace HLM := lh (HLM.out.g hg)
    have HPB := lh hb
    have hpl := hb.lt
    have HPP := lh (Nat.le_of_eq hp.symm)
    have hp2 : tp < p ∧ tb < p ∧ vb < p ∧ gm < p ∧ lm < p ∧ M10 ≤ p := by omega
    clear hg hb hp
    refine hK.out _ _ (.inl (fun _ => hS2)) ?_
    replace hS := hS2; clear hK K hS2
    try simp only [zz]
    refine pM 16 ?_
    simp only [zz]
    refine pM 17 ?_
    simp only [zz]
    refine dM ?_ _
    go_wp2_with fail
    go_ret2
    have hlast := HG.out.size
    have hpw := HPP.out
    have hmut : w.heap.size ≤ p ∧ w.heap.size ≤ tp ∧ w.heap.size ≤ tb ∧ w.heap.size ≤ vb ∧ w.heap.size ≤ lm ∧ w.heap.size ≤ gm := by omega
    exact ⟨⟨p, tp, tb, vb, lm, gm, some ⟨g5, 0, none⟩, c5, .slice none 0 0, fun _ => False⟩, rfl, st0_at HPB.out HOW.out HT.out HV.out HLM.out HM2.out (by simp; omega) (fun i h1 h2 => by omega) (by omega), rfl, rfl,
     mut_ge hmut, HG.out⟩
  ·skip
   (try have ot := HT.out.lts)
   (try have ov := HV.out.lt)
   (try have om := HM.out.lt)
   (try have ol := HLM.out.lt)
   have hmm := HMM.out
   go_simp
   clear hmm
   obtain ⟨gm, hlm⟩ : ∃ gm, gm = wl.heap.size := ⟨_, rfl⟩
   rw [← hlm]
   have hlm2 : wl.heap.size ≤ gm := by omega
   refine nmAm ?_
   intro wl hm hz3 hg
   rw [← hlm] at hm hz3
   have hz4 := hg.size
   have hz6 : gm < wl.heap.size := by omega
   clear hlm hz3
   have hS2 : (fun wr => _) wl := And.intro (hS.1.g hg) (hS.2.g hg)
   replace HOW := lh (HOW.out.kept hg (.inr (by simp [Value.ownBlock])))
   replace HG := lh (g2 HG.out hg)
   (try replace HG6 := lh (g2 HG6.out hg))
   (try replace HT := lh (HT.out.kept hg (by simp)))
   (try replace HV := lh (HV.out.kept hg (by simp)))
   (try replace HM := lh (HM.out.kept hg (by simp)))
   (try replace HL := lh (LedAt.g HL.out hg))
   (try replace HLM := lh (HLM.out.g hg))
   have HM2 := lh hm
   clear hg hm
   refine hK.out _ _ (.inl (fun _ => hS2)) ?_
   replace hS := hS2; clear hK K hS2
   try simp only [zz]
   refine aM [5, 8] (cM 5 (fun K hK => ?_) (cM 8 (fun K hK => ?_) nM))
   ·skip
    (try have om := HM.out.lt)
    (try have og := HM2.out.lt)
    have ot := HT.out.lts
    go_simp
    refine (vof_calls _ bs.length (by omega)).mono ?_
    rintro e wl ⟨vb, rfl, hv, hvb, hg⟩
    have hz2 := hg.size
    have hS2 : (fun wr => _) wl := And.intro (hS.1.g hg) (hS.2.g hg)
    replace HOW := lh (HOW.out.kept hg (.inr (by simp [Value.ownBlock])))
    replace HG := lh (g2 HG.out hg)
    (try replace HG6 := lh (g2 HG6.out hg))
    replace HT := lh (HT.out.kept hg (by simp))
    (try replace HM := lh (HM.out.kept hg (by simp)))
    (try replace HM2 := lh (HM2.out.kept hg (by simp)))
    have HV := lh hv
    have hlt2 := hv.lt
    clear hg hv
    refine hK.out _ _ (.inl (fun _ => hS2)) ?_
    replace hS := hS2; clear hK K hS2
    try simp only [zz]
    refine aM [8, 10] (cM 8 (fun K hK => ?_) (cM 10 (fun K hK => ?_) nM))
    ·skip
     (try have ot := HT.out.lts)
     (try have ov := HV.out.lt)
     (try have og := HM2.out.lt)
     have hmm := HMM.out
     go_simp
     clear hmm
     obtain ⟨lm, hlm⟩ : ∃ lm, lm = wl.heap.size := ⟨_, rfl⟩
     rw [← hlm]
     have hlm2 : wl.heap.size ≤ lm := by omega
     have hlm3 := hS.1.lt
     have hlm4 := hS.2.lt
     have hlm5 := HOW.out.lt g5 rfl
     have hlm6 := HG.out.size
     refine nmAm ?_
     intro wl hm hz3 hg
     rw [← hlm] at hm hz3
     have hz4 := hg.size
     have hz6 : lm < wl.heap.size := by omega
     clear hlm hz3
     have hS2 : (fun wr => _) wl := And.intro (hS.1.g hg) (hS.2.g hg)
     replace HOW := lh (HOW.out.kept hg (.inr (by simp [Value.ownBlock])))
     replace HG := lh (g2 HG.out hg)
     (try replace HG6 := lh (g2 HG6.out hg))
     (try replace HT := lh (HT.out.kept hg (by simp)))
     (try replace HV := lh (HV.out.kept hg (by simp)))
     (try replace HM2 := lh (HM2.out.kept hg (by simp)))
     (try replace HL := lh (LedAt.g HL.out hg))
     have HM := lh hm
     clear hg hm
     refine hK.out _ _ (.inl (fun _ => hS2)) ?_
     replace hS := hS2; clear hK K hS2
     try simp only [zz]
     refine rM 10 fun K hK => ?_
     have ot := HT.out.lts
     have ov := HV.out.lt
     (try have om := HM.out.lt)
     (try have og := HM2.out.lt)
     go_simp
     obtain ⟨N10, hN⟩ : ∃ N, N = wl.heap.size := ⟨_, rfl⟩
     refine (open_calls (a := some ⟨g5, 0, none⟩) (c := c5) (S := S) (B := B) hl2 1).mono ?_
     rintro e wl ⟨v, rfl, hled, hg⟩
     have hz5 := hg.size
     have hled2 := hled.here hl1
     obtain ⟨M10, hM⟩ : ∃ M, M = wl.heap.size := ⟨_, rfl⟩
     rw [← hN, ← hM] at hled2
     have hS2 : (fun wr => _) wl := And.intro (hS.1.g hg) (hS.2.g hg)
     replace HOW := lh (HOW.out.kept hg (.inr (by simp [Value.ownBlock])))
     replace HG := lh (g2 HG.out hg)
     (try replace HG6 := lh (g2 HG6.out hg))
     replace HT := lh (HT.out.kept hg (by simp))
     replace HV := lh (HV.out.kept hg (by simp))
     (try replace HM := lh (HM.out.kept hg (by simp)))
     (try replace HM2 := lh (HM2.out.kept hg (by simp)))
     have HL := lh hled2
     have hN1 : M10 ≤ wl.heap.size := by omega
     have hN2 := HG.out.size
     have hN3 : tp < N10 ∧ tb < N10 ∧ vb < N10 := by omega
     (try have hN4 : lm < N10 := by omega)
     (try have hN5 : gm < N10 := by omega)
     have hN6 : g5 < N10 := by have := HG6.out.size; omega
     clear hg hled hled2 hM hN
     refine hK.out _ _ (.inl (fun _ => hS2)) ?_
     replace hS := hS2; clear hK K hS2
     try simp only [zz]
     refine rM 11 fun K hK => ?_
     refine wp_store_any HM.out _ _ _ 74 (.inr rfl) Tryz.underlying27 Tryz.underlying74 (by unfold maxLen; omega) (k := 1) (by unfold inU; omega) v rfl rfl rfl ?_
     intro wl hm hg
     have hz7 := hg.size
     have hc := Chg.one (S := fun i => i = lm) hg rfl
     have hS2 : (fun wr => _) wl := And.intro (hS.1.kept hg (by simp; omega)) (hS.2.kept hg (by simp; omega))
     replace HOW := lh (HOW.out.kept hg (.inr (by simp [Value.ownBlock]; omega)))
     replace HG := lh (gnew HG.out hg (by omega))
     replace HT := lh (hc.tree HT.out (by omega) (by omega))
     replace HV := lh (hc.votes HV.out (by omega))
     (try replace HM2 := lh (hc.raw HM2.out (by omega)))
     have hlm := LMap.one hm (LedAt.chg HL.out hc (fun i hi e => by have h1 := hi.1; have h2 := hi.2; omega))
     have HLM := lh hlm
     clear hm hg hc HM HL hlm HG6
     refine hK.out _ _ (.inl (fun _ => hS2)) ?_
     replace hS := hS2; clear hK K hS2
     refine pM 12 ?_
     simp only [zz]
     refine pM 14 ?_
     simp only [zz]
     refine rM 15 fun K hK => ?_
     have ot := HT.out.lts
     have ov := HV.out.lt
     have og := HM2.out.lt
     have ol := HLM.out.lt
     go_simp
     obtain ⟨p, hp⟩ : ∃ p, p = wl.heap.size := ⟨_, rfl⟩
     rw [← hp]
     refine nmA1 ?_
     intro wl hb hg
     rw [← hp] at hb
     have hz8 := hg.size
     have hS2 : (fun wr => _) wl := And.intro (hS.1.g hg) (hS.2.g hg)
     replace HOW := lh (HOW.out.kept hg (.inr (by simp [Value.ownBlock])))
     replace HG := lh (g2 HG.out hg)
     replace HT := lh (HT.out.kept hg (by simp))
     replace HV := lh (HV.out.kept hg (by simp))
     replace HM2 := lh (HM2.out.kept hg (by simp))
     replace HLM := lh (HLM.out.g hg)
     have HPB := lh hb
     have hpl := hb.lt
     have HPP := lh (Nat.le_of_eq hp.symm)
     have hp2 : tp < p ∧ tb < p ∧ vb < p ∧ gm < p ∧ lm < p ∧ M10 ≤ p := by omega
     clear hg hb hp
     refine hK.out _ _ (.inl (fun _ => hS2)) ?_
     replace hS := hS2; clear hK K hS2
     try simp only [zz]
     refine pM 16 ?_
     simp only [zz]
     refine pM 17 ?_
     simp only [zz]
     refine dM ?_ _
     go_wp2_with fail
     go_ret2
     have hlast := HG.out.size
     have hpw := HPP.out
     have hmut : w.heap.size ≤ p ∧ w.heap.size ≤ tp ∧ w.heap.size ≤ tb ∧ w.heap.size ≤ vb ∧ w.heap.size ≤ lm ∧ w.heap.size ≤ gm := by omega
     exact ⟨⟨p, tp, tb, vb, lm, gm, some ⟨g5, 0, none⟩, c5, .slice none 0 0, fun _ => False⟩, rfl, st0_at HPB.out HOW.out HT.out HV.out HLM.out HM2.out (by simp; omega) (fun i h1 h2 => by omega) (by omega), rfl, rfl,
      mut_ge hmut, HG.out⟩
    ·skip
     have ot := HT.out.lts
     have ov := HV.out.lt
     (try have om := HM.out.lt)
     (try have og := HM2.out.lt)
     go_simp
     obtain ⟨N10, hN⟩ : ∃ N, N = wl.heap.size := ⟨_, rfl⟩
     refine (open_calls (a := some ⟨g5, 0, none⟩) (c := c5) (S := S) (B := B) hl2 1).mono ?_
     rintro e wl ⟨v, rfl, hled, hg⟩
     have hz5 := hg.size
     have hled2 := hled.here hl1
     obtain ⟨M10, hM⟩ : ∃ M, M = wl.heap.size := ⟨_, rfl⟩
     rw [← hN, ← hM] at hled2
     have hS2 : (fun wr => _) wl := And.intro (hS.1.g hg) (hS.2.g hg)
     replace HOW := lh (HOW.out.kept hg (.inr (by simp [Value.ownBlock])))
     replace HG := lh (g2 HG.out hg)
     (try replace HG6 := lh (g2 HG6.out hg))
     replace HT := lh (HT.out.kept hg (by simp))
     replace HV := lh (HV.out.kept hg (by simp))
     (try replace HM := lh (HM.out.kept hg (by simp)))
     (try replace HM2 := lh (HM2.out.kept hg (by simp)))
     have HL := lh hled2
     have hN1 : M10 ≤ wl.heap.size := by omega
     have hN2 := HG.out.size
     have hN3 : tp < N10 ∧ tb < N10 ∧ vb < N10 := by omega
     (try have hN4 : lm < N10 := by omega)
     (try have hN5 : gm < N10 := by omega)
     have hN6 : g5 < N10 := by have := HG6.out.size; omega
     clear hg hled hled2 hM hN
     refine hK.out _ _ (.inl (fun _ => hS2)) ?_
     replace hS := hS2; clear hK K hS2
     try simp only [zz]
     refine rM 8 fun K hK => ?_
     (try have ot := HT.out.lts)
     (try have ov := HV.out.lt)
     (try have og := HM2.out.lt)
     have hmm := HMM.out
     go_simp
     clear hmm
     obtain ⟨lm, hlm⟩ : ∃ lm, lm = wl.heap.size := ⟨_, rfl⟩
     rw [← hlm]
     have hlm2 : wl.heap.size ≤ lm := by omega
     have hlm3 := hS.1.lt
     have hlm4 := hS.2.lt
     have hlm5 := HOW.out.lt g5 rfl
     have hlm6 := HG.out.size
     refine nmAm ?_
     intro wl hm hz3 hg
     rw [← hlm] at hm hz3
     have hz4 := hg.size
     have hz6 : lm < wl.heap.size := by omega
     clear hlm hz3
     have hS2 : (fun wr => _) wl := And.intro (hS.1.g hg) (hS.2.g hg)
     replace HOW := lh (HOW.out.kept hg (.inr (by simp [Value.ownBlock])))
     replace HG := lh (g2 HG.out hg)
     (try replace HG6 := lh (g2 HG6.out hg))
     (try replace HT := lh (HT.out.kept hg (by simp)))
     (try replace HV := lh (HV.out.kept hg (by simp)))
     (try replace HM2 := lh (HM2.out.kept hg (by simp)))
     (try replace HL := lh (LedAt.g HL.out hg))
     have HM := lh hm
     clear hg hm
     refine hK.out _ _ (.inl (fun _ => hS2)) ?_
     replace hS := hS2; clear hK K hS2
     try simp only [zz]
     refine rM 11 fun K hK => ?_
     refine wp_store_any HM.out _ _ _ 74 (.inr rfl) Tryz.underlying27 Tryz.underlying74 (by unfold maxLen; omega) (k := 1) (by unfold inU; omega) v rfl rfl rfl ?_
     intro wl hm hg
     have hz7 := hg.size
     have hc := Chg.one (S := fun i => i = lm) hg rfl
     have hS2 : (fun wr => _) wl := And.intro (hS.1.kept hg (by simp; omega)) (hS.2.kept hg (by simp; omega))
     replace HOW := lh (HOW.out.kept hg (.inr (by simp [Value.ownBlock]; omega)))
     replace HG := lh (gnew HG.out hg (by omega))
     replace HT := lh (hc.tree HT.out (by omega) (by omega))
     replace HV := lh (hc.votes HV.out (by omega))
     (try replace HM2 := lh (hc.raw HM2.out (by omega)))
     have hlm := LMap.one hm (LedAt.chg HL.out hc (fun i hi e => by have h1 := hi.1; have h2 := hi.2; omega))
     have HLM := lh hlm
     clear hm hg hc HM HL hlm HG6
     refine hK.out _ _ (.inl (fun _ => hS2)) ?_
     replace hS := hS2; clear hK K hS2
     refine pM 12 ?_
     simp only [zz]
     refine pM 14 ?_
     simp only [zz]
     refine rM 15 fun K hK => ?_
     have ot := HT.out.lts
     have ov := HV.out.lt
     have og := HM2.out.lt
     have ol := HLM.out.lt
     go_simp
     obtain ⟨p, hp⟩ : ∃ p, p = wl.heap.size := ⟨_, rfl⟩
     rw [← hp]
     refine nmA1 ?_
     intro wl hb hg
     rw [← hp] at hb
     have hz8 := hg.size
     have hS2 : (fun wr => _) wl := And.intro (hS.1.g hg) (hS.2.g hg)
     replace HOW := lh (HOW.out.kept hg (.inr (by simp [Value.ownBlock])))
     replace HG := lh (g2 HG.out hg)
     replace HT := lh (HT.out.kept hg (by simp))
     replace HV := lh (HV.out.kept hg (by simp))
     replace HM2 := lh (HM2.out.kept hg (by simp))
     replace HLM := lh (HLM.out.g hg)
     have HPB := lh hb
     have hpl := hb.lt
     have HPP := lh (Nat.le_of_eq hp.symm)
     have hp2 : tp < p ∧ tb < p ∧ vb < p ∧ gm < p ∧ lm < p ∧ M10 ≤ p := by omega
     clear hg hb hp
     refine hK.out _ _ (.inl (fun _ => hS2)) ?_
     replace hS := hS2; clear hK K hS2
     try simp only [zz]
     refine pM 16 ?_
     simp only [zz]
     refine pM 17 ?_
     simp only [zz]
     refine dM ?_ _
     go_wp2_with fail
     go_ret2
     have hlast := HG.out.size
     have hpw := HPP.out
     have hmut : w.heap.size ≤ p ∧ w.heap.size ≤ tp ∧ w.heap.size ≤ tb ∧ w.heap.size ≤ vb ∧ w.heap.size ≤ lm ∧ w.heap.size ≤ gm := by omega
     exact ⟨⟨p, tp, tb, vb, lm, gm, some ⟨g5, 0, none⟩, c5, .slice none 0 0, fun _ => False⟩, rfl, st0_at HPB.out HOW.out HT.out HV.out HLM.out HM2.out (by simp; omega) (fun i h1 h2 => by omega) (by omega), rfl, rfl,
      mut_ge hmut, HG.out⟩
   ·skip
    (try have ot := HT.out.lts)
    (try have ov := HV.out.lt)
    (try have og := HM2.out.lt)
    have hmm := HMM.out
    go_simp
    clear hmm
    obtain ⟨lm, hlm⟩ : ∃ lm, lm = wl.heap.size := ⟨_, rfl⟩
    rw [← hlm]
    have hlm2 : wl.heap.size ≤ lm := by omega
    have hlm3 := hS.1.lt
    have hlm4 := hS.2.lt
    have hlm5 := HOW.out.lt g5 rfl
    have hlm6 := HG.out.size
    refine nmAm ?_
    intro wl hm hz3 hg
    rw [← hlm] at hm hz3
    have hz4 := hg.size
    have hz6 : lm < wl.heap.size := by omega
    clear hlm hz3
    have hS2 : (fun wr => _) wl := And.intro (hS.1.g hg) (hS.2.g hg)
    replace HOW := lh (HOW.out.kept hg (.inr (by simp [Value.ownBlock])))
    replace HG := lh (g2 HG.out hg)
    (try replace HG6 := lh (g2 HG6.out hg))
    (try replace HT := lh (HT.out.kept hg (by simp)))
    (try replace HV := lh (HV.out.kept hg (by simp)))
    (try replace HM2 := lh (HM2.out.kept hg (by simp)))
    (try replace HL := lh (LedAt.g HL.out hg))
    have HM := lh hm
    clear hg hm
    refine hK.out _ _ (.inl (fun _ => hS2)) ?_
    replace hS := hS2; clear hK K hS2
    try simp only [zz]
    refine rM 5 fun K hK => ?_
    (try have om := HM.out.lt)
    (try have og := HM2.out.lt)
    have ot := HT.out.lts
    go_simp
    refine (vof_calls _ bs.length (by omega)).mono ?_
    rintro e wl ⟨vb, rfl, hv, hvb, hg⟩
    have hz2 := hg.size
    have hS2 : (fun wr => _) wl := And.intro (hS.1.g hg) (hS.2.g hg)
    replace HOW := lh (HOW.out.kept hg (.inr (by simp [Value.ownBlock])))
    replace HG := lh (g2 HG.out hg)
    (try replace HG6 := lh (g2 HG6.out hg))
    replace HT := lh (HT.out.kept hg (by simp))
    (try replace HM := lh (HM.out.kept hg (by simp)))
    (try replace HM2 := lh (HM2.out.kept hg (by simp)))
    have HV := lh hv
    have hlt2 := hv.lt
    clear hg hv
    refine hK.out _ _ (.inl (fun _ => hS2)) ?_
    replace hS := hS2; clear hK K hS2
    try simp only [zz]
    refine rM 10 fun K hK => ?_
    have ot := HT.out.lts
    have ov := HV.out.lt
    (try have om := HM.out.lt)
    (try have og := HM2.out.lt)
    go_simp
    obtain ⟨N10, hN⟩ : ∃ N, N = wl.heap.size := ⟨_, rfl⟩
    refine (open_calls (a := some ⟨g5, 0, none⟩) (c := c5) (S := S) (B := B) hl2 1).mono ?_
    rintro e wl ⟨v, rfl, hled, hg⟩
    have hz5 := hg.size
    have hled2 := hled.here hl1
    obtain ⟨M10, hM⟩ : ∃ M, M = wl.heap.size := ⟨_, rfl⟩
    rw [← hN, ← hM] at hled2
    have hS2 : (fun wr => _) wl := And.intro (hS.1.g hg) (hS.2.g hg)
    replace HOW := lh (HOW.out.kept hg (.inr (by simp [Value.ownBlock])))
    replace HG := lh (g2 HG.out hg)
    (try replace HG6 := lh (g2 HG6.out hg))
    replace HT := lh (HT.out.kept hg (by simp))
    replace HV := lh (HV.out.kept hg (by simp))
    (try replace HM := lh (HM.out.kept hg (by simp)))
    (try replace HM2 := lh (HM2.out.kept hg (by simp)))
    have HL := lh hled2
    have hN1 : M10 ≤ wl.heap.size := by omega
    have hN2 := HG.out.size
    have hN3 : tp < N10 ∧ tb < N10 ∧ vb < N10 := by omega
    (try have hN4 : lm < N10 := by omega)
    (try have hN5 : gm < N10 := by omega)
    have hN6 : g5 < N10 := by have := HG6.out.size; omega
    clear hg hled hled2 hM hN
    refine hK.out _ _ (.inl (fun _ => hS2)) ?_
    replace hS := hS2; clear hK K hS2
    try simp only [zz]
    refine rM 11 fun K hK => ?_
    refine wp_store_any HM.out _ _ _ 74 (.inr rfl) Tryz.underlying27 Tryz.underlying74 (by unfold maxLen; omega) (k := 1) (by unfold inU; omega) v rfl rfl rfl ?_
    intro wl hm hg
    have hz7 := hg.size
    have hc := Chg.one (S := fun i => i = lm) hg rfl
    have hS2 : (fun wr => _) wl := And.intro (hS.1.kept hg (by simp; omega)) (hS.2.kept hg (by simp; omega))
    replace HOW := lh (HOW.out.kept hg (.inr (by simp [Value.ownBlock]; omega)))
    replace HG := lh (gnew HG.out hg (by omega))
    replace HT := lh (hc.tree HT.out (by omega) (by omega))
    replace HV := lh (hc.votes HV.out (by omega))
    (try replace HM2 := lh (hc.raw HM2.out (by omega)))
    have hlm := LMap.one hm (LedAt.chg HL.out hc (fun i hi e => by have h1 := hi.1; have h2 := hi.2; omega))
    have HLM := lh hlm
    clear hm hg hc HM HL hlm HG6
    refine hK.out _ _ (.inl (fun _ => hS2)) ?_
    replace hS := hS2; clear hK K hS2
    refine pM 12 ?_
    simp only [zz]
    refine pM 14 ?_
    simp only [zz]
    refine rM 15 fun K hK => ?_
    have ot := HT.out.lts
    have ov := HV.out.lt
    have og := HM2.out.lt
    have ol := HLM.out.lt
    go_simp
    obtain ⟨p, hp⟩ : ∃ p, p = wl.heap.size := ⟨_, rfl⟩
    rw [← hp]
    refine nmA1 ?_
    intro wl hb hg
    rw [← hp] at hb
    have hz8 := hg.size
    have hS2 : (fun wr => _) wl := And.intro (hS.1.g hg) (hS.2.g hg)
    replace HOW := lh (HOW.out.kept hg (.inr (by simp [Value.ownBlock])))
    replace HG := lh (g2 HG.out hg)
    replace HT := lh (HT.out.kept hg (by simp))
    replace HV := lh (HV.out.kept hg (by simp))
    replace HM2 := lh (HM2.out.kept hg (by simp))
    replace HLM := lh (HLM.out.g hg)
    have HPB := lh hb
    have hpl := hb.lt
    have HPP := lh (Nat.le_of_eq hp.symm)
    have hp2 : tp < p ∧ tb < p ∧ vb < p ∧ gm < p ∧ lm < p ∧ M10 ≤ p := by omega
    clear hg hb hp
    refine hK.out _ _ (.inl (fun _ => hS2)) ?_
    replace hS := hS2; clear hK K hS2
    try simp only [zz]
    refine pM 16 ?_
    simp only [zz]
    refine pM 17 ?_
    simp only [zz]
    refine dM ?_ _
    go_wp2_with fail
    go_ret2
    have hlast := HG.out.size
    have hpw := HPP.out
    have hmut : w.heap.size ≤ p ∧ w.heap.size ≤ tp ∧ w.heap.size ≤ tb ∧ w.heap.size ≤ vb ∧ w.heap.size ≤ lm ∧ w.heap.size ≤ gm := by omega
    exact ⟨⟨p, tp, tb, vb, lm, gm, some ⟨g5, 0, none⟩, c5, .slice none 0 0, fun _ => False⟩, rfl, st0_at HPB.out HOW.out HT.out HV.out HLM.out HM2.out (by simp; omega) (fun i h1 h2 => by omega) (by omega), rfl, rfl,
     mut_ge hmut, HG.out⟩
 ·skip
  (try have ot := HT.out.lts)
  (try have ov := HV.out.lt)
  (try have og := HM2.out.lt)
  have hmm := HMM.out
  go_simp
  clear hmm
  obtain ⟨lm, hlm⟩ : ∃ lm, lm = wl.heap.size := ⟨_, rfl⟩
  rw [← hlm]
  have hlm2 : wl.heap.size ≤ lm := by omega
  have hlm3 := hS.1.lt
  have hlm4 := hS.2.lt
  have hlm5 := HOW.out.lt g5 rfl
  have hlm6 := HG.out.size
  refine nmAm ?_
  intro wl hm hz3 hg
  rw [← hlm] at hm hz3
  have hz4 := hg.size
  have hz6 : lm < wl.heap.size := by omega
  clear hlm hz3
  have hS2 : (fun wr => _) wl := And.intro (hS.1.g hg) (hS.2.g hg)
  replace HOW := lh (HOW.out.kept hg (.inr (by simp [Value.ownBlock])))
  replace HG := lh (g2 HG.out hg)
  (try replace HG6 := lh (g2 HG6.out hg))
  (try replace HT := lh (HT.out.kept hg (by simp)))
  (try replace HV := lh (HV.out.kept hg (by simp)))
  (try replace HM2 := lh (HM2.out.kept hg (by simp)))
  (try replace HL := lh (LedAt.g HL.out hg))
  have HM := lh hm
  clear hg hm
  refine hK.out _ _ (.inl (fun _ => hS2)) ?_
  replace hS := hS2; clear hK K hS2
  try simp only [zz]
  refine aM [1, 13] (cM 1 (fun K hK => ?_) (cM 13 (fun K hK => ?_) nM))
  ·skip
   (try have om := HM.out.lt)
   (try have og := HM2.out.lt)
   go_simp
   refine (tof_calls _ (by unfold inU; omega)).mono ?_
   rintro e wl ⟨tp, tb, rfl, ht, htp, htb, hg⟩
   have hz1 := hg.size
   have hS2 : (fun wr => _) wl := And.intro (hS.1.g hg) (hS.2.g hg)
   replace HOW := lh (HOW.out.kept hg (.inr (by simp [Value.ownBlock])))
   replace HG := lh (g2 HG.out hg)
   (try replace HG6 := lh (g2 HG6.out hg))
   (try replace HM := lh (HM.out.kept hg (by simp)))
   (try replace HM2 := lh (HM2.out.kept hg (by simp)))
   have HT := lh ht
   have hlt1 := ht.lts
   have hne1 := ht.ne
   clear hg ht
   refine hK.out _ _ (.inl (fun _ => hS2)) ?_
   replace hS := hS2; clear hK K hS2
   try simp only [zz]
   refine aM [5, 13] (cM 5 (fun K hK => ?_) (cM 13 (fun K hK => ?_) nM))
   ·skip
    (try have om := HM.out.lt)
    (try have og := HM2.out.lt)
    have ot := HT.out.lts
    go_simp
    refine (vof_calls _ bs.length (by omega)).mono ?_
    rintro e wl ⟨vb, rfl, hv, hvb, hg⟩
    have hz2 := hg.size
    have hS2 : (fun wr => _) wl := And.intro (hS.1.g hg) (hS.2.g hg)
    replace HOW := lh (HOW.out.kept hg (.inr (by simp [Value.ownBlock])))
    replace HG := lh (g2 HG.out hg)
    (try replace HG6 := lh (g2 HG6.out hg))
    replace HT := lh (HT.out.kept hg (by simp))
    (try replace HM := lh (HM.out.kept hg (by simp)))
    (try replace HM2 := lh (HM2.out.kept hg (by simp)))
    have HV := lh hv
    have hlt2 := hv.lt
    clear hg hv
    refine hK.out _ _ (.inl (fun _ => hS2)) ?_
    replace hS := hS2; clear hK K hS2
    try simp only [zz]
    refine aM [10, 13] (cM 10 (fun K hK => ?_) (cM 13 (fun K hK => ?_) nM))
    ·skip
     have ot := HT.out.lts
     have ov := HV.out.lt
     (try have om := HM.out.lt)
     (try have og := HM2.out.lt)
     go_simp
     obtain ⟨N10, hN⟩ : ∃ N, N = wl.heap.size := ⟨_, rfl⟩
     refine (open_calls (a := some ⟨g5, 0, none⟩) (c := c5) (S := S) (B := B) hl2 1).mono ?_
     rintro e wl ⟨v, rfl, hled, hg⟩
     have hz5 := hg.size
     have hled2 := hled.here hl1
     obtain ⟨M10, hM⟩ : ∃ M, M = wl.heap.size := ⟨_, rfl⟩
     rw [← hN, ← hM] at hled2
     have hS2 : (fun wr => _) wl := And.intro (hS.1.g hg) (hS.2.g hg)
     replace HOW := lh (HOW.out.kept hg (.inr (by simp [Value.ownBlock])))
     replace HG := lh (g2 HG.out hg)
     (try replace HG6 := lh (g2 HG6.out hg))
     replace HT := lh (HT.out.kept hg (by simp))
     replace HV := lh (HV.out.kept hg (by simp))
     (try replace HM := lh (HM.out.kept hg (by simp)))
     (try replace HM2 := lh (HM2.out.kept hg (by simp)))
     have HL := lh hled2
     have hN1 : M10 ≤ wl.heap.size := by omega
     have hN2 := HG.out.size
     have hN3 : tp < N10 ∧ tb < N10 ∧ vb < N10 := by omega
     (try have hN4 : lm < N10 := by omega)
     (try have hN5 : gm < N10 := by omega)
     have hN6 : g5 < N10 := by have := HG6.out.size; omega
     clear hg hled hled2 hM hN
     refine hK.out _ _ (.inl (fun _ => hS2)) ?_
     replace hS := hS2; clear hK K hS2
     try simp only [zz]
     refine aM [11, 13] (cM 11 (fun K hK => ?_) (cM 13 (fun K hK => ?_) nM))
     ·skip
      refine wp_store_any HM.out _ _ _ 74 (.inr rfl) Tryz.underlying27 Tryz.underlying74 (by unfold maxLen; omega) (k := 1) (by unfold inU; omega) v rfl rfl rfl ?_
      intro wl hm hg
      have hz7 := hg.size
      have hc := Chg.one (S := fun i => i = lm) hg rfl
      have hS2 : (fun wr => _) wl := And.intro (hS.1.kept hg (by simp; omega)) (hS.2.kept hg (by simp; omega))
      replace HOW := lh (HOW.out.kept hg (.inr (by simp [Value.ownBlock]; omega)))
      replace HG := lh (gnew HG.out hg (by omega))
      replace HT := lh (hc.tree HT.out (by omega) (by omega))
      replace HV := lh (hc.votes HV.out (by omega))
      (try replace HM2 := lh (hc.raw HM2.out (by omega)))
      have hlm := LMap.one hm (LedAt.chg HL.out hc (fun i hi e => by have h1 := hi.1; have h2 := hi.2; omega))
      have HLM := lh hlm
      clear hm hg hc HM HL hlm HG6
      refine hK.out _ _ (.inl (fun _ => hS2)) ?_
      replace hS := hS2; clear hK K hS2
      refine pM 12 ?_
      simp only [zz]
      refine rM 13 fun K hK => ?_
      (try have ot := HT.out.lts)
      (try have ov := HV.out.lt)
      (try have om := HM.out.lt)
      (try have ol := HLM.out.lt)
      have hmm := HMM.out
      go_simp
      clear hmm
      obtain ⟨gm, hlm⟩ : ∃ gm, gm = wl.heap.size := ⟨_, rfl⟩
      rw [← hlm]
      have hlm2 : wl.heap.size ≤ gm := by omega
      refine nmAm ?_
      intro wl hm hz3 hg
      rw [← hlm] at hm hz3
      have hz4 := hg.size
      have hz6 : gm < wl.heap.size := by omega
      clear hlm hz3
      have hS2 : (fun wr => _) wl := And.intro (hS.1.g hg) (hS.2.g hg)
      replace HOW := lh (HOW.out.kept hg (.inr (by simp [Value.ownBlock])))
      replace HG := lh (g2 HG.out hg)
      (try replace HG6 := lh (g2 HG6.out hg))
      (try replace HT := lh (HT.out.kept hg (by simp)))
      (try replace HV := lh (HV.out.kept hg (by simp)))
      (try replace HM := lh (HM.out.kept hg (by simp)))
      (try replace HL := lh (LedAt.g HL.out hg))
      (try replace HLM := lh (HLM.out.g hg))
      have HM2 := lh hm
      clear hg hm
      refine hK.out _ _ (.inl (fun _ => hS2)) ?_
      replace hS := hS2; clear hK K hS2
      try simp only [zz]
      refine pM 14 ?_
      simp only [zz]
      refine rM 15 fun K hK => ?_
      have ot := HT.out.lts
      have ov := HV.out.lt
      have og := HM2.out.lt
      have ol := HLM.out.lt
      go_simp
      obtain ⟨p, hp⟩ : ∃ p, p = wl.heap.size := ⟨_, rfl⟩
      rw [← hp]
      refine nmA1 ?_
      intro wl hb hg
      rw [← hp] at hb
      have hz8 := hg.size
      have hS2 : (fun wr => _) wl := And.intro (hS.1.g hg) (hS.2.g hg)
      replace HOW := lh (HOW.out.kept hg (.inr (by simp [Value.ownBlock])))
      replace HG := lh (g2 HG.out hg)
      replace HT := lh (HT.out.kept hg (by simp))
      replace HV := lh (HV.out.kept hg (by simp))
      replace HM2 := lh (HM2.out.kept hg (by simp))
      replace HLM := lh (HLM.out.g hg)
      have HPB := lh hb
      have hpl := hb.lt
      have HPP := lh (Nat.le_of_eq hp.symm)
      have hp2 : tp < p ∧ tb < p ∧ vb < p ∧ gm < p ∧ lm < p ∧ M10 ≤ p := by omega
      clear hg hb hp
      refine hK.out _ _ (.inl (fun _ => hS2)) ?_
      replace hS := hS2; clear hK K hS2
      try simp only [zz]
      refine pM 16 ?_
      simp only [zz]
      refine pM 17 ?_
      simp only [zz]
      refine dM ?_ _
      go_wp2_with fail
      go_ret2
      have hlast := HG.out.size
      have hpw := HPP.out
      have hmut : w.heap.size ≤ p ∧ w.heap.size ≤ tp ∧ w.heap.size ≤ tb ∧ w.heap.size ≤ vb ∧ w.heap.size ≤ lm ∧ w.heap.size ≤ gm := by omega
      exact ⟨⟨p, tp, tb, vb, lm, gm, some ⟨g5, 0, none⟩, c5, .slice none 0 0, fun _ => False⟩, rfl, st0_at HPB.out HOW.out HT.out HV.out HLM.out HM2.out (by simp; omega) (fun i h1 h2 => by omega) (by omega), rfl, rfl,
       mut_ge hmut, HG.out⟩
     ·skip
      (try have ot := HT.out.lts)
      (try have ov := HV.out.lt)
      (try have om := HM.out.lt)
      (try have ol := HLM.out.lt)
      have hmm := HMM.out
      go_simp
      clear hmm
      obtain ⟨gm, hlm⟩ : ∃ gm, gm = wl.heap.size := ⟨_, rfl⟩
      rw [← hlm]
      have hlm2 : wl.heap.size ≤ gm := by omega
      refine nmAm ?_
      intro wl hm hz3 hg
      rw [← hlm] at hm hz3
      have hz4 := hg.size
      have hz6 : gm < wl.heap.size := by omega
      clear hlm hz3
      have hS2 : (fun wr => _) wl := And.intro (hS.1.g hg) (hS.2.g hg)
      replace HOW := lh (HOW.out.kept hg (.inr (by simp [Value.ownBlock])))
      replace HG := lh (g2 HG.out hg)
      (try replace HG6 := lh (g2 HG6.out hg))
      (try replace HT := lh (HT.out.kept hg (by simp)))
      (try replace HV := lh (HV.out.kept hg (by simp)))
      (try replace HM := lh (HM.out.kept hg (by simp)))
      (try replace HL := lh (LedAt.g HL.out hg))
      (try replace HLM := lh (HLM.out.g hg))
      have HM2 := lh hm
      clear hg hm
      refine hK.out _ _ (.inl (fun _ => hS2)) ?_
      replace hS := hS2; clear hK K hS2
      try simp only [zz]
      refine rM 11 fun K hK => ?_
      refine wp_store_any HM.out _ _ _ 74 (.inr rfl) Tryz.underlying27 Tryz.underlying74 (by unfold maxLen; omega) (k := 1) (by unfold inU; omega) v rfl rfl rfl ?_
      intro wl hm hg
      have hz7 := hg.size
      have hc := Chg.one (S := fun i => i = lm) hg rfl
      have hS2 : (fun wr => _) wl := And.intro (hS.1.kept hg (by simp; omega)) (hS.2.kept hg (by simp; omega))
      replace HOW := lh (HOW.out.kept hg (.inr (by simp [Value.ownBlock]; omega)))
      replace HG := lh (gnew HG.out hg (by omega))
      replace HT := lh (hc.tree HT.out (by omega) (by omega))
      replace HV := lh (hc.votes HV.out (by omega))
      (try replace HM2 := lh (hc.raw HM2.out (by omega)))
      have hlm := LMap.one hm (LedAt.chg HL.out hc (fun i hi e => by have h1 := hi.1; have h2 := hi.2; omega))
      have HLM := lh hlm
      clear hm hg hc HM HL hlm HG6
      refine hK.out _ _ (.inl (fun _ => hS2)) ?_
      replace hS := hS2; clear hK K hS2
      refine pM 12 ?_
      simp only [zz]
      refine pM 14 ?_
      simp only [zz]
      refine rM 15 fun K hK => ?_
      have ot := HT.out.lts
      have ov := HV.out.lt
      have og := HM2.out.lt
      have ol := HLM.out.lt
      go_simp
      obtain ⟨p, hp⟩ : ∃ p, p = wl.heap.size := ⟨_, rfl⟩
      rw [← hp]
      refine nmA1 ?_
      intro wl hb hg
      rw [← hp] at hb
      have hz8 := hg.size
      have hS2 : (fun wr => _) wl := And.intro (hS.1.g hg) (hS.2.g hg)
      replace HOW := lh (HOW.out.kept hg (.inr (by simp [Value.ownBlock])))
      replace HG := lh (g2 HG.out hg)
      replace HT := lh (HT.out.kept hg (by simp))
      replace HV := lh (HV.out.kept hg (by simp))
      replace HM2 := lh (HM2.out.kept hg (by simp))
      replace HLM := lh (HLM.out.g hg)
      have HPB := lh hb
      have hpl := hb.lt
      have HPP := lh (Nat.le_of_eq hp.symm)
      have hp2 : tp < p ∧ tb < p ∧ vb < p ∧ gm < p ∧ lm < p ∧ M10 ≤ p := by omega
      clear hg hb hp
      refine hK.out _ _ (.inl (fun _ => hS2)) ?_
      replace hS := hS2; clear hK K hS2
      try simp only [zz]
      refine pM 16 ?_
      simp only [zz]
      refine pM 17 ?_
      simp only [zz]
      refine dM ?_ _
      go_wp2_with fail
      go_ret2
      have hlast := HG.out.size
      have hpw := HPP.out
      have hmut : w.heap.size ≤ p ∧ w.heap.size ≤ tp ∧ w.heap.size ≤ tb ∧ w.heap.size ≤ vb ∧ w.heap.size ≤ lm ∧ w.heap.size ≤ gm := by omega
      exact ⟨⟨p, tp, tb, vb, lm, gm, some ⟨g5, 0, none⟩, c5, .slice none 0 0, fun _ => False⟩, rfl, st0_at HPB.out HOW.out HT.out HV.out HLM.out HM2.out (by simp; omega) (fun i h1 h2 => by omega) (by omega), rfl, rfl,
       mut_ge hmut, HG.out⟩
    ·skip
     (try have ot := HT.out.lts)
     (try have ov := HV.out.lt)
     (try have om := HM.out.lt)
     (try have ol := HLM.out.lt)
     have hmm := HMM.out
     go_simp
     clear hmm
     obtain ⟨gm, hlm⟩ : ∃ gm, gm = wl.heap.size := ⟨_, rfl⟩
     rw [← hlm]
     have hlm2 : wl.heap.size ≤ gm := by omega
     refine nmAm ?_
     intro wl hm hz3 hg
     rw [← hlm] at hm hz3
     have hz4 := hg.size
     have hz6 : gm < wl.heap.size := by omega
     clear hlm hz3
     have hS2 : (fun wr => _) wl := And.intro (hS.1.g hg) (hS.2.g hg)
     replace HOW := lh (HOW.out.kept hg (.inr (by simp [Value.ownBlock])))
     replace HG := lh (g2 HG.out hg)
     (try replace HG6 := lh (g2 HG6.out hg))
     (try replace HT := lh (HT.out.kept hg (by simp)))
     (try replace HV := lh (HV.out.kept hg (by simp)))
     (try replace HM := lh (HM.out.kept hg (by simp)))
     (try replace HL := lh (LedAt.g HL.out hg))
     (try replace HLM := lh (HLM.out.g hg))
     have HM2 := lh hm
     clear hg hm
     refine hK.out _ _ (.inl (fun _ => hS2)) ?_
     replace hS := hS2; clear hK K hS2
     try simp only [zz]
     refine rM 10 fun K hK => ?_
     have ot := HT.out.lts
     have ov := HV.out.lt
     (try have om := HM.out.lt)
     (try have og := HM2.out.lt)
     go_simp
     obtain ⟨N10, hN⟩ : ∃ N, N = wl.heap.size := ⟨_, rfl⟩
     refine (open_calls (a := some ⟨g5, 0, none⟩) (c := c5) (S := S) (B := B) hl2 1).mono ?_
     rintro e wl ⟨v, rfl, hled, hg⟩
     have hz5 := hg.size
     have hled2 := hled.here hl1
     obtain ⟨M10, hM⟩ : ∃ M, M = wl.heap.size := ⟨_, rfl⟩
     rw [← hN, ← hM] at hled2
     have hS2 : (fun wr => _) wl := And.intro (hS.1.g hg) (hS.2.g hg)
     replace HOW := lh (HOW.out.kept hg (.inr (by simp [Value.ownBlock])))
     replace HG := lh (g2 HG.out hg)
     (try replace HG6 := lh (g2 HG6.out hg))
     replace HT := lh (HT.out.kept hg (by simp))
     replace HV := lh (HV.out.kept hg (by simp))
     (try replace HM := lh (HM.out.kept hg (by simp)))
     (try replace HM2 := lh (HM2.out.kept hg (by simp)))
     have HL := lh hled2
     have hN1 : M10 ≤ wl.heap.size := by omega
     have hN2 := HG.out.size
     have hN3 : tp < N10 ∧ tb < N10 ∧ vb < N10 := by omega
     (try have hN4 : lm < N10 := by omega)
     (try have hN5 : gm < N10 := by omega)
     have hN6 : g5 < N10 := by have := HG6.out.size; omega
     clear hg hled hled2 hM hN
     refine hK.out _ _ (.inl (fun _ => hS2)) ?_
     replace hS := hS2; clear hK K hS2
     try simp only [zz]
     refine rM 11 fun K hK => ?_
     refine wp_store_any HM.out _ _ _ 74 (.inr rfl) Tryz.underlying27 Tryz.underlying74 (by unfold maxLen; omega) (k := 1) (by unfold inU; omega) v rfl rfl rfl ?_
     intro wl hm hg
     have hz7 := hg.size
     have hc := Chg.one (S := fun i => i = lm) hg rfl
     have hS2 : (fun wr => _) wl := And.intro (hS.1.kept hg (by simp; omega)) (hS.2.kept hg (by simp; omega))
     replace HOW := lh (HOW.out.kept hg (.inr (by simp [Value.ownBlock]; omega)))
     replace HG := lh (gnew HG.out hg (by omega))
     replace HT := lh (hc.tree HT.out (by omega) (by omega))
     replace HV := lh (hc.votes HV.out (by omega))
     (try replace HM2 := lh (hc.raw HM2.out (by omega)))
     have hlm := LMap.one hm (LedAt.chg HL.out hc (fun i hi e => by have h1 := hi.1; have h2 := hi.2; omega))
     have HLM := lh hlm
     clear hm hg hc HM HL hlm HG6
     refine hK.out _ _ (.inl (fun _ => hS2)) ?_
     replace hS := hS2; clear hK K hS2
     refine pM 12 ?_
     simp only [zz]
     refine pM 14 ?_
     simp only [zz]
     refine rM 15 fun K hK => ?_
     have ot := HT.out.lts
     have ov := HV.out.lt
     have og := HM2.out.lt
     have ol := HLM.out.lt
     go_simp
     obtain ⟨p, hp⟩ : ∃ p, p = wl.heap.size := ⟨_, rfl⟩
     rw [← hp]
     refine nmA1 ?_
     intro wl hb hg
     rw [← hp] at hb
     have hz8 := hg.size
     have hS2 : (fun wr => _) wl := And.intro (hS.1.g hg) (hS.2.g hg)
     replace HOW := lh (HOW.out.kept hg (.inr (by simp [Value.ownBlock])))
     replace HG := lh (g2 HG.out hg)
     replace HT := lh (HT.out.kept hg (by simp))
     replace HV := lh (HV.out.kept hg (by simp))
     replace HM2 := lh (HM2.out.kept hg (by simp))
     replace HLM := lh (HLM.out.g hg)
     have HPB := lh hb
     have hpl := hb.lt
     have HPP := lh (Nat.le_of_eq hp.symm)
     have hp2 : tp < p ∧ tb < p ∧ vb < p ∧ gm < p ∧ lm < p ∧ M10 ≤ p := by omega
     clear hg hb hp
     refine hK.out _ _ (.inl (fun _ => hS2)) ?_
     replace hS := hS2; clear hK K hS2
     try simp only [zz]
     refine pM 16 ?_
     simp only [zz]
     refine pM 17 ?_
     simp only [zz]
     refine dM ?_ _
     go_wp2_with fail
     go_ret2
     have hlast := HG.out.size
     have hpw := HPP.out
     have hmut : w.heap.size ≤ p ∧ w.heap.size ≤ tp ∧ w.heap.size ≤ tb ∧ w.heap.size ≤ vb ∧ w.heap.size ≤ lm ∧ w.heap.size ≤ gm := by omega
     exact ⟨⟨p, tp, tb, vb, lm, gm, some ⟨g5, 0, none⟩, c5, .slice none 0 0, fun _ => False⟩, rfl, st0_at HPB.out HOW.out HT.out HV.out HLM.out HM2.out (by simp; omega) (fun i h1 h2 => by omega) (by omega), rfl, rfl,
      mut_ge hmut, HG.out⟩
   ·skip
    (try have ot := HT.out.lts)
    (try have ov := HV.out.lt)
    (try have om := HM.out.lt)
    (try have ol := HLM.out.lt)
    have hmm := HMM.out
    go_simp
    clear hmm
    obtain ⟨gm, hlm⟩ : ∃ gm, gm = wl.heap.size := ⟨_, rfl⟩
    rw [← hlm]
    have hlm2 : wl.heap.size ≤ gm := by omega
    refine nmAm ?_
    intro wl hm hz3 hg
    rw [← hlm] at hm hz3
    have hz4 := hg.size
    have hz6 : gm < wl.heap.size := by omega
    clear hlm hz3
    have hS2 : (fun wr => _) wl := And.intro (hS.1.g hg) (hS.2.g hg)
    replace HOW := lh (HOW.out.kept hg (.inr (by simp [Value.ownBlock])))
    replace HG := lh (g2 HG.out hg)
    (try replace HG6 := lh (g2 HG6.out hg))
    (try replace HT := lh (HT.out.kept hg (by simp)))
    (try replace HV := lh (HV.out.kept hg (by simp)))
    (try replace HM := lh (HM.out.kept hg (by simp)))
    (try replace HL := lh (LedAt.g HL.out hg))
    (try replace HLM := lh (HLM.out.g hg))
    have HM2 := lh hm
    clear hg hm
    refine hK.out _ _ (.inl (fun _ => hS2)) ?_
    replace hS := hS2; clear hK K hS2
    try simp only [zz]
    refine rM 5 fun K hK => ?_
    (try have om := HM.out.lt)
    (try have og := HM2.out.lt)
    have ot := HT.out.lts
    go_simp
    refine (vof_calls _ bs.length (by omega)).mono ?_
    rintro e wl ⟨vb, rfl, hv, hvb, hg⟩
    have hz2 := hg.size
    have hS2 : (fun wr => _) wl := And.intro (hS.1.g hg) (hS.2.g hg)
    replace HOW := lh (HOW.out.kept hg (.inr (by simp [Value.ownBlock])))
    replace HG := lh (g2 HG.out hg)
    (try replace HG6 := lh (g2 HG6.out hg))
    replace HT := lh (HT.out.kept hg (by simp))
    (try replace HM := lh (HM.out.kept hg (by simp)))
    (try replace HM2 := lh (HM2.out.kept hg (by simp)))
    have HV := lh hv
    have hlt2 := hv.lt
    clear hg hv
    refine hK.out _ _ (.inl (fun _ => hS2)) ?_
    replace hS := hS2; clear hK K hS2
    try simp only [zz]
    refine rM 10 fun K hK => ?_
    have ot := HT.out.lts
    have ov := HV.out.lt
    (try have om := HM.out.lt)
    (try have og := HM2.out.lt)
    go_simp
    obtain ⟨N10, hN⟩ : ∃ N, N = wl.heap.size := ⟨_, rfl⟩
    refine (open_calls (a := some ⟨g5, 0, none⟩) (c := c5) (S := S) (B := B) hl2 1).mono ?_
    rintro e wl ⟨v, rfl, hled, hg⟩
    have hz5 := hg.size
    have hled2 := hled.here hl1
    obtain ⟨M10, hM⟩ : ∃ M, M = wl.heap.size := ⟨_, rfl⟩
    rw [← hN, ← hM] at hled2
    have hS2 : (fun wr => _) wl := And.intro (hS.1.g hg) (hS.2.g hg)
    replace HOW := lh (HOW.out.kept hg (.inr (by simp [Value.ownBlock])))
    replace HG := lh (g2 HG.out hg)
    (try replace HG6 := lh (g2 HG6.out hg))
    replace HT := lh (HT.out.kept hg (by simp))
    replace HV := lh (HV.out.kept hg (by simp))
    (try replace HM := lh (HM.out.kept hg (by simp)))
    (try replace HM2 := lh (HM2.out.kept hg (by simp)))
    have HL := lh hled2
    have hN1 : M10 ≤ wl.heap.size := by omega
    have hN2 := HG.out.size
    have hN3 : tp < N10 ∧ tb < N10 ∧ vb < N10 := by omega
    (try have hN4 : lm < N10 := by omega)
    (try have hN5 : gm < N10 := by omega)
    have hN6 : g5 < N10 := by have := HG6.out.size; omega
    clear hg hled hled2 hM hN
    refine hK.out _ _ (.inl (fun _ => hS2)) ?_
    replace hS := hS2; clear hK K hS2
    try simp only [zz]
    refine rM 11 fun K hK => ?_
    refine wp_store_any HM.out _ _ _ 74 (.inr rfl) Tryz.underlying27 Tryz.underlying74 (by unfold maxLen; omega) (k := 1) (by unfold inU; omega) v rfl rfl rfl ?_
    intro wl hm hg
    have hz7 := hg.size
    have hc := Chg.one (S := fun i => i = lm) hg rfl
    have hS2 : (fun wr => _) wl := And.intro (hS.1.kept hg (by simp; omega)) (hS.2.kept hg (by simp; omega))
    replace HOW := lh (HOW.out.kept hg (.inr (by simp [Value.ownBlock]; omega)))
    replace HG := lh (gnew HG.out hg (by omega))
    replace HT := lh (hc.tree HT.out (by omega) (by omega))
    replace HV := lh (hc.votes HV.out (by omega))
    (try replace HM2 := lh (hc.raw HM2.out (by omega)))
    have hlm := LMap.one hm (LedAt.chg HL.out hc (fun i hi e => by have h1 := hi.1; have h2 := hi.2; omega))
    have HLM := lh hlm
    clear hm hg hc HM HL hlm HG6
    refine hK.out _ _ (.inl (fun _ => hS2)) ?_
    replace hS := hS2; clear hK K hS2
    refine pM 12 ?_
    simp only [zz]
    refine pM 14 ?_
    simp only [zz]
    refine rM 15 fun K hK => ?_
    have ot := HT.out.lts
    have ov := HV.out.lt
    have og := HM2.out.lt
    have ol := HLM.out.lt
    go_simp
    obtain ⟨p, hp⟩ : ∃ p, p = wl.heap.size := ⟨_, rfl⟩
    rw [← hp]
    refine nmA1 ?_
    intro wl hb hg
    rw [← hp] at hb
    have hz8 := hg.size
    have hS2 : (fun wr => _) wl := And.intro (hS.1.g hg) (hS.2.g hg)
    replace HOW := lh (HOW.out.kept hg (.inr (by simp [Value.ownBlock])))
    replace HG := lh (g2 HG.out hg)
    replace HT := lh (HT.out.kept hg (by simp))
    replace HV := lh (HV.out.kept hg (by simp))
    replace HM2 := lh (HM2.out.kept hg (by simp))
    replace HLM := lh (HLM.out.g hg)
    have HPB := lh hb
    have hpl := hb.lt
    have HPP := lh (Nat.le_of_eq hp.symm)
    have hp2 : tp < p ∧ tb < p ∧ vb < p ∧ gm < p ∧ lm < p ∧ M10 ≤ p := by omega
    clear hg hb hp
    refine hK.out _ _ (.inl (fun _ => hS2)) ?_
    replace hS := hS2; clear hK K hS2
    try simp only [zz]
    refine pM 16 ?_
    simp only [zz]
    refine pM 17 ?_
    simp only [zz]
    refine dM ?_ _
    go_wp2_with fail
    go_ret2
    have hlast := HG.out.size
    have hpw := HPP.out
    have hmut : w.heap.size ≤ p ∧ w.heap.size ≤ tp ∧ w.heap.size ≤ tb ∧ w.heap.size ≤ vb ∧ w.heap.size ≤ lm ∧ w.heap.size ≤ gm := by omega
    exact ⟨⟨p, tp, tb, vb, lm, gm, some ⟨g5, 0, none⟩, c5, .slice none 0 0, fun _ => False⟩, rfl, st0_at HPB.out HOW.out HT.out HV.out HLM.out HM2.out (by simp; omega) (fun i h1 h2 => by omega) (by omega), rfl, rfl,
     mut_ge hmut, HG.out⟩
  ·skip
   (try have ot := HT.out.lts)
   (try have ov := HV.out.lt)
   (try have om := HM.out.lt)
   (try have ol := HLM.out.lt)
   have hmm := HMM.out
   go_simp
   clear hmm
   obtain ⟨gm, hlm⟩ : ∃ gm, gm = wl.heap.size := ⟨_, rfl⟩
   rw [← hlm]
   have hlm2 : wl.heap.size ≤ gm := by omega
   refine nmAm ?_
   intro wl hm hz3 hg
   rw [← hlm] at hm hz3
   have hz4 := hg.size
   have hz6 : gm < wl.heap.size := by omega
   clear hlm hz3
   have hS2 : (fun wr => _) wl := And.intro (hS.1.g hg) (hS.2.g hg)
   replace HOW := lh (HOW.out.kept hg (.inr (by simp [Value.ownBlock])))
   replace HG := lh (g2 HG.out hg)
   (try replace HG6 := lh (g2 HG6.out hg))
   (try replace HT := lh (HT.out.kept hg (by simp)))
   (try replace HV := lh (HV.out.kept hg (by simp)))
   (try replace HM := lh (HM.out.kept hg (by simp)))
   (try replace HL := lh (LedAt.g HL.out hg))
   (try replace HLM := lh (HLM.out.g hg))
   have HM2 := lh hm
   clear hg hm
   refine hK.out _ _ (.inl (fun _ => hS2)) ?_
   replace hS := hS2; clear hK K hS2
   try simp only [zz]
   refine rM 1 fun K hK => ?_
   (try have om := HM.out.lt)
   (try have og := HM2.out.lt)
   go_simp
   refine (tof_calls _ (by unfold inU; omega)).mono ?_
   rintro e wl ⟨tp, tb, rfl, ht, htp, htb, hg⟩
   have hz1 := hg.size
   have hS2 : (fun wr => _) wl := And.intro (hS.1.g hg) (hS.2.g hg)
   replace HOW := lh (HOW.out.kept hg (.inr (by simp [Value.ownBlock])))
   replace HG := lh (g2 HG.out hg)
   (try replace HG6 := lh (g2 HG6.out hg))
   (try replace HM := lh (HM.out.kept hg (by simp)))
   (try replace HM2 := lh (HM2.out.kept hg (by simp)))
   have HT := lh ht
   have hlt1 := ht.lts
   have hne1 := ht.ne
   clear hg ht
   refine hK.out _ _ (.inl (fun _ => hS2)) ?_
   replace hS := hS2; clear hK K hS2
   try simp only [zz]
   refine rM 5 fun K hK => ?_
   (try have om := HM.out.lt)
   (try have og := HM2.out.lt)
   have ot := HT.out.lts
   go_simp
   refine (vof_calls _ bs.length (by omega)).mono ?_
   rintro e wl ⟨vb, rfl, hv, hvb, hg⟩
   have hz2 := hg.size
   have hS2 : (fun wr => _) wl := And.intro (hS.1.g hg) (hS.2.g hg)
   replace HOW := lh (HOW.out.kept hg (.inr (by simp [Value.ownBlock])))
   replace HG := lh (g2 HG.out hg)
   (try replace HG6 := lh (g2 HG6.out hg))
   replace HT := lh (HT.out.kept hg (by simp))
   (try replace HM := lh (HM.out.kept hg (by simp)))
   (try replace HM2 := lh (HM2.out.kept hg (by simp)))
   have HV := lh hv
   have hlt2 := hv.lt
   clear hg hv
   refine hK.out _ _ (.inl (fun _ => hS2)) ?_
   replace hS := hS2; clear hK K hS2
   try simp only [zz]
   refine rM 10 fun K hK => ?_
   have ot := HT.out.lts
   have ov := HV.out.lt
   (try have om := HM.out.lt)
   (try have og := HM2.out.lt)
   go_simp
   obtain ⟨N10, hN⟩ : ∃ N, N = wl.heap.size := ⟨_, rfl⟩
   refine (open_calls (a := some ⟨g5, 0, none⟩) (c := c5) (S := S) (B := B) hl2 1).mono ?_
   rintro e wl ⟨v, rfl, hled, hg⟩
   have hz5 := hg.size
   have hled2 := hled.here hl1
   obtain ⟨M10, hM⟩ : ∃ M, M = wl.heap.size := ⟨_, rfl⟩
   rw [← hN, ← hM] at hled2
   have hS2 : (fun wr => _) wl := And.intro (hS.1.g hg) (hS.2.g hg)
   replace HOW := lh (HOW.out.kept hg (.inr (by simp [Value.ownBlock])))
   replace HG := lh (g2 HG.out hg)
   (try replace HG6 := lh (g2 HG6.out hg))
   replace HT := lh (HT.out.kept hg (by simp))
   replace HV := lh (HV.out.kept hg (by simp))
   (try replace HM := lh (HM.out.kept hg (by simp)))
   (try replace HM2 := lh (HM2.out.kept hg (by simp)))
   have HL := lh hled2
   have hN1 : M10 ≤ wl.heap.size := by omega
   have hN2 := HG.out.size
   have hN3 : tp < N10 ∧ tb < N10 ∧ vb < N10 := by omega
   (try have hN4 : lm < N10 := by omega)
   (try have hN5 : gm < N10 := by omega)
   have hN6 : g5 < N10 := by have := HG6.out.size; omega
   clear hg hled hled2 hM hN
   refine hK.out _ _ (.inl (fun _ => hS2)) ?_
   replace hS := hS2; clear hK K hS2
   try simp only [zz]
   refine rM 11 fun K hK => ?_
   refine wp_store_any HM.out _ _ _ 74 (.inr rfl) Tryz.underlying27 Tryz.underlying74 (by unfold maxLen; omega) (k := 1) (by unfold inU; omega) v rfl rfl rfl ?_
   intro wl hm hg
   have hz7 := hg.size
   have hc := Chg.one (S := fun i => i = lm) hg rfl
   have hS2 : (fun wr => _) wl := And.intro (hS.1.kept hg (by simp; omega)) (hS.2.kept hg (by simp; omega))
   replace HOW := lh (HOW.out.kept hg (.inr (by simp [Value.ownBlock]; omega)))
   replace HG := lh (gnew HG.out hg (by omega))
   replace HT := lh (hc.tree HT.out (by omega) (by omega))
   replace HV := lh (hc.votes HV.out (by omega))
   (try replace HM2 := lh (hc.raw HM2.out (by omega)))
   have hlm := LMap.one hm (LedAt.chg HL.out hc (fun i hi e => by have h1 := hi.1; have h2 := hi.2; omega))
   have HLM := lh hlm
   clear hm hg hc HM HL hlm HG6
   refine hK.out _ _ (.inl (fun _ => hS2)) ?_
   replace hS := hS2; clear hK K hS2
   refine pM 12 ?_
   simp only [zz]
   refine pM 14 ?_
   simp only [zz]
   refine rM 15 fun K hK => ?_
   have ot := HT.out.lts
   have ov := HV.out.lt
   have og := HM2.out.lt
   have ol := HLM.out.lt
   go_simp
   obtain ⟨p, hp⟩ : ∃ p, p = wl.heap.size := ⟨_, rfl⟩
   rw [← hp]
   refine nmA1 ?_
   intro wl hb hg
   rw [← hp] at hb
   have hz8 := hg.size
   have hS2 : (fun wr => _) wl := And.intro (hS.1.g hg) (hS.2.g hg)
   replace HOW := lh (HOW.out.kept hg (.inr (by simp [Value.ownBlock])))
   replace HG := lh (g2 HG.out hg)
   replace HT := lh (HT.out.kept hg (by simp))
   replace HV := lh (HV.out.kept hg (by simp))
   replace HM2 := lh (HM2.out.kept hg (by simp))
   replace HLM := lh (HLM.out.g hg)
   have HPB := lh hb
   have hpl := hb.lt
   have HPP := lh (Nat.le_of_eq hp.symm)
   have hp2 : tp < p ∧ tb < p ∧ vb < p ∧ gm < p ∧ lm < p ∧ M10 ≤ p := by omega
   clear hg hb hp
   refine hK.out _ _ (.inl (fun _ => hS2)) ?_
   replace hS := hS2; clear hK K hS2
   try simp only [zz]
   refine pM 16 ?_
   simp only [zz]
   refine pM 17 ?_
   simp only [zz]
   refine dM ?_ _
   go_wp2_with fail
   go_ret2
   have hlast := HG.out.size
   have hpw := HPP.out
   have hmut : w.heap.size ≤ p ∧ w.heap.size ≤ tp ∧ w.heap.size ≤ tb ∧ w.heap.size ≤ vb ∧ w.heap.size ≤ lm ∧ w.heap.size ≤ gm := by omega
   exact ⟨⟨p, tp, tb, vb, lm, gm, some ⟨g5, 0, none⟩, c5, .slice none 0 0, fun _ => False⟩, rfl, st0_at HPB.out HOW.out HT.out HV.out HLM.out HM2.out (by simp; omega) (fun i h1 h2 => by omega) (by omega), rfl, rfl,
    mut_ge hmut, HG.out⟩
 ·skip
  (try have ot := HT.out.lts)
  (try have ov := HV.out.lt)
  (try have om := HM.out.lt)
  (try have ol := HLM.out.lt)
  have hmm := HMM.out
  go_simp
  clear hmm
  obtain ⟨gm, hlm⟩ : ∃ gm, gm = wl.heap.size := ⟨_, rfl⟩
  rw [← hlm]
  have hlm2 : wl.heap.size ≤ gm := by omega
  refine nmAm ?_
  intro wl hm hz3 hg
  rw [← hlm] at hm hz3
  have hz4 := hg.size
  have hz6 : gm < wl.heap.size := by omega
  clear hlm hz3
  have hS2 : (fun wr => _) wl := And.intro (hS.1.g hg) (hS.2.g hg)
  replace HOW := lh (HOW.out.kept hg (.inr (by simp [Value.ownBlock])))
  replace HG := lh (g2 HG.out hg)
  (try replace HG6 := lh (g2 HG6.out hg))
  (try replace HT := lh (HT.out.kept hg (by simp)))
  (try replace HV := lh (HV.out.kept hg (by simp)))
  (try replace HM := lh (HM.out.kept hg (by simp)))
  (try replace HL := lh (LedAt.g HL.out hg))
  (try replace HLM := lh (HLM.out.g hg))
  have HM2 := lh hm
  clear hg hm
  refine hK.out _ _ (.inl (fun _ => hS2)) ?_
  replace hS := hS2; clear hK K hS2
  try simp only [zz]
  refine aM [1, 8] (cM 1 (fun K hK => ?_) (cM 8 (fun K hK => ?_) nM))
  ·skip
   (try have om := HM.out.lt)
   (try have og := HM2.out.lt)
   go_simp
   refine (tof_calls _ (by unfold inU; omega)).mono ?_
   rintro e wl ⟨tp, tb, rfl, ht, htp, htb, hg⟩
   have hz1 := hg.size
   have hS2 : (fun wr => _) wl := And.intro (hS.1.g hg) (hS.2.g hg)
   replace HOW := lh (HOW.out.kept hg (.inr (by simp [Value.ownBlock])))
   replace HG := lh (g2 HG.out hg)
   (try replace HG6 := lh (g2 HG6.out hg))
   (try replace HM := lh (HM.out.kept hg (by simp)))
   (try replace HM2 := lh (HM2.out.kept hg (by simp)))
   have HT := lh ht
   have hlt1 := ht.lts
   have hne1 := ht.ne
   clear hg ht
   refine hK.out _ _ (.inl (fun _ => hS2)) ?_
   replace hS := hS2; clear hK K hS2
   try simp only [zz]
   refine aM [5, 8] (cM 5 (fun K hK => ?_) (cM 8 (fun K hK => ?_) nM))
   ·skip
    (try have om := HM.out.lt)
    (try have og := HM2.out.lt)
    have ot := HT.out.lts
    go_simp
    refine (vof_calls _ bs.length (by omega)).mono ?_
    rintro e wl ⟨vb, rfl, hv, hvb, hg⟩
    have hz2 := hg.size
    have hS2 : (fun wr => _) wl := And.intro (hS.1.g hg) (hS.2.g hg)
    replace HOW := lh (HOW.out.kept hg (.inr (by simp [Value.ownBlock])))
    replace HG := lh (g2 HG.out hg)
    (try replace HG6 := lh (g2 HG6.out hg))
    replace HT := lh (HT.out.kept hg (by simp))
    (try replace HM := lh (HM.out.kept hg (by simp)))
    (try replace HM2 := lh (HM2.out.kept hg (by simp)))
    have HV := lh hv
    have hlt2 := hv.lt
    clear hg hv
    refine hK.out _ _ (.inl (fun _ => hS2)) ?_
    replace hS := hS2; clear hK K hS2
    try simp only [zz]
    refine aM [8, 10] (cM 8 (fun K hK => ?_) (cM 10 (fun K hK => ?_) nM))
    ·skip
     (try have ot := HT.out.lts)
     (try have ov := HV.out.lt)
     (try have og := HM2.out.lt)
     have hmm := HMM.out
     go_simp
     clear hmm
     obtain ⟨lm, hlm⟩ : ∃ lm, lm = wl.heap.size := ⟨_, rfl⟩
     rw [← hlm]
     have hlm2 : wl.heap.size ≤ lm := by omega
     have hlm3 := hS.1.lt
     have hlm4 := hS.2.lt
     have hlm5 := HOW.out.lt g5 rfl
     have hlm6 := HG.out.size
     refine nmAm ?_
     intro wl hm hz3 hg
     rw [← hlm] at hm hz3
     have hz4 := hg.size
     have hz6 : lm < wl.heap.size := by omega
     clear hlm hz3
     have hS2 : (fun wr => _) wl := And.intro (hS.1.g hg) (hS.2.g hg)
     replace HOW := lh (HOW.out.kept hg (.inr (by simp [Value.ownBlock])))
     replace HG := lh (g2 HG.out hg)
     (try replace HG6 := lh (g2 HG6.out hg))
     (try replace HT := lh (HT.out.kept hg (by simp)))
     (try replace HV := lh (HV.out.kept hg (by simp)))
     (try replace HM2 := lh (HM2.out.kept hg (by simp)))
     (try replace HL := lh (LedAt.g HL.out hg))
     have HM := lh hm
     clear hg hm
     refine hK.out _ _ (.inl (fun _ => hS2)) ?_
     replace hS := hS2; clear hK K hS2
     try simp only [zz]
     refine rM 10 fun K hK => ?_
     have ot := HT.out.lts
     have ov := HV.out.lt
     (try have om := HM.out.lt)
     (try have og := HM2.out.lt)
     go_simp
     obtain ⟨N10, hN⟩ : ∃ N, N = wl.heap.size := ⟨_, rfl⟩
     refine (open_calls (a := some ⟨g5, 0, none⟩) (c := c5) (S := S) (B := B) hl2 1).mono ?_
     rintro e wl ⟨v, rfl, hled, hg⟩
     have hz5 := hg.size
     have hled2 := hled.here hl1
     obtain ⟨M10, hM⟩ : ∃ M, M = wl.heap.size := ⟨_, rfl⟩
     rw [← hN, ← hM] at hled2
     have hS2 : (fun wr => _) wl := And.intro (hS.1.g hg) (hS.2.g hg)
     replace HOW := lh (HOW.out.kept hg (.inr (by simp [Value.ownBlock])))
     replace HG := lh (g2 HG.out hg)
     (try replace HG6 := lh (g2 HG6.out hg))
     replace HT := lh (HT.out.kept hg (by simp))
     replace HV := lh (HV.out.kept hg (by simp))
     (try replace HM := lh (HM.out.kept hg (by simp)))
     (try replace HM2 := lh (HM2.out.kept hg (by simp)))
     have HL := lh hled2
     have hN1 : M10 ≤ wl.heap.size := by omega
     have hN2 := HG.out.size
     have hN3 : tp < N10 ∧ tb < N10 ∧ vb < N10 := by omega
     (try have hN4 : lm < N10 := by omega)
     (try have hN5 : gm < N10 := by omega)
     have hN6 : g5 < N10 := by have := HG6.out.size; omega
     clear hg hled hled2 hM hN
     refine hK.out _ _ (.inl (fun _ => hS2)) ?_
     replace hS := hS2; clear hK K hS2
     try simp only [zz]
     refine rM 11 fun K hK => ?_
     refine wp_store_any HM.out _ _ _ 74 (.inr rfl) Tryz.underlying27 Tryz.underlying74 (by unfold maxLen; omega) (k := 1) (by unfold inU; omega) v rfl rfl rfl ?_
     intro wl hm hg
     have hz7 := hg.size
     have hc := Chg.one (S := fun i => i = lm) hg rfl
     have hS2 : (fun wr => _) wl := And.intro (hS.1.kept hg (by simp; omega)) (hS.2.kept hg (by simp; omega))
     replace HOW := lh (HOW.out.kept hg (.inr (by simp [Value.ownBlock]; omega)))
     replace HG := lh (gnew HG.out hg (by omega))
     replace HT := lh (hc.tree HT.out (by omega) (by omega))
     replace HV := lh (hc.votes HV.out (by omega))
     (try replace HM2 := lh (hc.raw HM2.out (by omega)))
     have hlm := LMap.one hm (LedAt.chg HL.out hc (fun i hi e => by have h1 := hi.1; have h2 := hi.2; omega))
     have HLM := lh hlm
     clear hm hg hc HM HL hlm HG6
     refine hK.out _ _ (.inl (fun _ => hS2)) ?_
     replace hS := hS2; clear hK K hS2
     refine pM 12 ?_
     simp only [zz]
     refine pM 14 ?_
     simp only [zz]
     refine rM 15 fun K hK => ?_
     have ot := HT.out.lts
     have ov := HV.out.lt
     have og := HM2.out.lt
     have ol := HLM.out.lt
     go_simp
     obtain ⟨p, hp⟩ : ∃ p, p = wl.heap.size := ⟨_, rfl⟩
     rw [← hp]
     refine nmA1 ?_
     intro wl hb hg
     rw [← hp] at hb
     have hz8 := hg.size
     have hS2 : (fun wr => _) wl := And.intro (hS.1.g hg) (hS.2.g hg)
     replace HOW := lh (HOW.out.kept hg (.inr (by simp [Value.ownBlock])))
     replace HG := lh (g2 HG.out hg)
     replace HT := lh (HT.out.kept hg (by simp))
     replace HV := lh (HV.out.kept hg (by simp))
     replace HM2 := lh (HM2.out.kept hg (by simp))
     replace HLM := lh (HLM.out.g hg)
     have HPB := lh hb
     have hpl := hb.lt
     have HPP := lh (Nat.le_of_eq hp.symm)
     have hp2 : tp < p ∧ tb < p ∧ vb < p ∧ gm < p ∧ lm < p ∧ M10 ≤ p := by omega
     clear hg hb hp
     refine hK.out _ _ (.inl (fun _ => hS2)) ?_
     replace hS := hS2; clear hK K hS2
     try simp only [zz]
     refine pM 16 ?_
     simp only [zz]
     refine pM 17 ?_
     simp only [zz]
     refine dM ?_ _
     go_wp2_with fail
     go_ret2
     have hlast := HG.out.size
     have hpw := HPP.out
     have hmut : w.heap.size ≤ p ∧ w.heap.size ≤ tp ∧ w.heap.size ≤ tb ∧ w.heap.size ≤ vb ∧ w.heap.size ≤ lm ∧ w.heap.size ≤ gm := by omega
     exact ⟨⟨p, tp, tb, vb, lm, gm, some ⟨g5, 0, none⟩, c5, .slice none 0 0, fun _ => False⟩, rfl, st0_at HPB.out HOW.out HT.out HV.out HLM.out HM2.out (by simp; omega) (fun i h1 h2 => by omega) (by omega), rfl, rfl,
      mut_ge hmut, HG.out⟩
    ·skip
     have ot := HT.out.lts
     have ov := HV.out.lt
     (try have om := HM.out.lt)
     (try have og := HM2.out.lt)
     go_simp
     obtain ⟨N10, hN⟩ : ∃ N, N = wl.heap.size := ⟨_, rfl⟩
     refine (open_calls (a := some ⟨g5, 0, none⟩) (c := c5) (S := S) (B := B) hl2 1).mono ?_
     rintro e wl ⟨v, rfl, hled, hg⟩
     have hz5 := hg.size
     have hled2 := hled.here hl1
     obtain ⟨M10, hM⟩ : ∃ M, M = wl.heap.size := ⟨_, rfl⟩
     rw [← hN, ← hM] at hled2
     have hS2 : (fun wr => _) wl := And.intro (hS.1.g hg) (hS.2.g hg)
     replace HOW := lh (HOW.out.kept hg (.inr (by simp [Value.ownBlock])))
     replace HG := lh (g2 HG.out hg)
     (try replace HG6 := lh (g2 HG6.out hg))
     replace HT := lh (HT.out.kept hg (by simp))
     replace HV := lh (HV.out.kept hg (by simp))
     (try replace HM := lh (HM.out.kept hg (by simp)))
     (try replace HM2 := lh (HM2.out.kept hg (by simp)))
     have HL := lh hled2
     have hN1 : M10 ≤ wl.heap.size := by omega
     have hN2 := HG.out.size
     have hN3 : tp < N10 ∧ tb < N10 ∧ vb < N10 := by omega
     (try have hN4 : lm < N10 := by omega)
     (try have hN5 : gm < N10 := by omega)
     have hN6 : g5 < N10 := by have := HG6.out.size; omega
     clear hg hled hled2 hM hN
     refine hK.out _ _ (.inl (fun _ => hS2)) ?_
     replace hS := hS2; clear hK K hS2
     try simp only [zz]
     refine rM 8 fun K hK => ?_
     (try have ot := HT.out.lts)
     (try have ov := HV.out.lt)
     (try have og := HM2.out.lt)
     have hmm := HMM.out
     go_simp
     clear hmm
     obtain ⟨lm, hlm⟩ : ∃ lm, lm = wl.heap.size := ⟨_, rfl⟩
     rw [← hlm]
     have hlm2 : wl.heap.size ≤ lm := by omega
     have hlm3 := hS.1.lt
     have hlm4 := hS.2.lt
     have hlm5 := HOW.out.lt g5 rfl
     have hlm6 := HG.out.size
     refine nmAm ?_
     intro wl hm hz3 hg
     rw [← hlm] at hm hz3
     have hz4 := hg.size
     have hz6 : lm < wl.heap.size := by omega
     clear hlm hz3
     have hS2 : (fun wr => _) wl := And.intro (hS.1.g hg) (hS.2.g hg)
     replace HOW := lh (HOW.out.kept hg (.inr (by simp [Value.ownBlock])))
     replace HG := lh (g2 HG.out hg)
     (try replace HG6 := lh (g2 HG6.out hg))
     (try replace HT := lh (HT.out.kept hg (by simp)))
     (try replace HV := lh (HV.out.kept hg (by simp)))
     (try replace HM2 := lh (HM2.out.kept hg (by simp)))
     (try replace HL := lh (LedAt.g HL.out hg))
     have HM := lh hm
     clear hg hm
     refine hK.out _ _ (.inl (fun _ => hS2)) ?_
     replace hS := hS2; clear hK K hS2
     try simp only [zz]
     refine rM 11 fun K hK => ?_
     refine wp_store_any HM.out _ _ _ 74 (.inr rfl) Tryz.underlying27 Tryz.underlying74 (by unfold maxLen; omega) (k := 1) (by unfold inU; omega) v rfl rfl rfl ?_
     intro wl hm hg
     have hz7 := hg.size
     have hc := Chg.one (S := fun i => i = lm) hg rfl
     have hS2 : (fun wr => _) wl := And.intro (hS.1.kept hg (by simp; omega)) (hS.2.kept hg (by simp; omega))
     replace HOW := lh (HOW.out.kept hg (.inr (by simp [Value.ownBlock]; omega)))
     replace HG := lh (gnew HG.out hg (by omega))
     replace HT := lh (hc.tree HT.out (by omega) (by omega))
     replace HV := lh (hc.votes HV.out (by omega))
     (try replace HM2 := lh (hc.raw HM2.out (by omega)))
     have hlm := LMap.one hm (LedAt.chg HL.out hc (fun i hi e => by have h1 := hi.1; have h2 := hi.2; omega))
     have HLM := lh hlm
     clear hm hg hc HM HL hlm HG6
     refine hK.out _ _ (.inl (fun _ => hS2)) ?_
     replace hS := hS2; clear hK K hS2
     refine pM 12 ?_
     simp only [zz]
     refine pM 14 ?_
     simp only [zz]
     refine rM 15 fun K hK => ?_
     have ot := HT.out.lts
     have ov := HV.out.lt
     have og := HM2.out.lt
     have ol := HLM.out.lt
     go_simp
     obtain ⟨p, hp⟩ : ∃ p, p = wl.heap.size := ⟨_, rfl⟩
     rw [← hp]
     refine nmA1 ?_
     intro wl hb hg
     rw [← hp] at hb
     have hz8 := hg.size
     have hS2 : (fun wr => _) wl := And.intro (hS.1.g hg) (hS.2.g hg)
     replace HOW := lh (HOW.out.kept hg (.inr (by simp [Value.ownBlock])))
     replace HG := lh (g2 HG.out hg)
     replace HT := lh (HT.out.kept hg (by simp))
     replace HV := lh (HV.out.kept hg (by simp))
     replace HM2 := lh (HM2.out.kept hg (by simp))
     replace HLM := lh (HLM.out.g hg)
     have HPB := lh hb
     have hpl := hb.lt
     have HPP := lh (Nat.le_of_eq hp.symm)
     have hp2 : tp < p ∧ tb < p ∧ vb < p ∧ gm < p ∧ lm < p ∧ M10 ≤ p := by omega
     clear hg hb hp
     refine hK.out _ _ (.inl (fun _ => hS2)) ?_
     replace hS := hS2; clear hK K hS2
     try simp only [zz]
     refine pM 16 ?_
     simp only [zz]
     refine pM 17 ?_
     simp only [zz]
     refine dM ?_ _
     go_wp2_with fail
     go_ret2
     have hlast := HG.out.size
     have hpw := HPP.out
     have hmut : w.heap.size ≤ p ∧ w.heap.size ≤ tp ∧ w.heap.size ≤ tb ∧ w.heap.size ≤ vb ∧ w.heap.size ≤ lm ∧ w.heap.size ≤ gm := by omega
     exact ⟨⟨p, tp, tb, vb, lm, gm, some ⟨g5, 0, none⟩, c5, .slice none 0 0, fun _ => False⟩, rfl, st0_at HPB.out HOW.out HT.out HV.out HLM.out HM2.out (by simp; omega) (fun i h1 h2 => by omega) (by omega), rfl, rfl,
      mut_ge hmut, HG.out⟩
   ·skip
    (try have ot := HT.out.lts)
    (try have ov := HV.out.lt)
    (try have og := HM2.out.lt)
    have hmm := HMM.out
    go_simp
    clear hmm
    obtain ⟨lm, hlm⟩ : ∃ lm, lm = wl.heap.size := ⟨_, rfl⟩
    rw [← hlm]
    have hlm2 : wl.heap.size ≤ lm := by omega
    have hlm3 := hS.1.lt
    have hlm4 := hS.2.lt
    have hlm5 := HOW.out.lt g5 rfl
    have hlm6 := HG.out.size
    refine nmAm ?_
    intro wl hm hz3 hg
    rw [← hlm] at hm hz3
    have hz4 := hg.size
    have hz6 : lm < wl.heap.size := by omega
    clear hlm hz3
    have hS2 : (fun wr => _) wl := And.intro (hS.1.g hg) (hS.2.g hg)
    replace HOW := lh (HOW.out.kept hg (.inr (by simp [Value.ownBlock])))
    replace HG := lh (g2 HG.out hg)
    (try replace HG6 := lh (g2 HG6.out hg))
    (try replace HT := lh (HT.out.kept hg (by simp)))
    (try replace HV := lh (HV.out.kept hg (by simp)))
    (try replace HM2 := lh (HM2.out.kept hg (by simp)))
    (try replace HL := lh (LedAt.g HL.out hg))
    have HM := lh hm
    clear hg hm
    refine hK.out _ _ (.inl (fun _ => hS2)) ?_
    replace hS := hS2; clear hK K hS2
    try simp only [zz]
    refine rM 5 fun K hK => ?_
    (try have om := HM.out.lt)
    (try have og := HM2.out.lt)
    have ot := HT.out.lts
    go_simp
    refine (vof_calls _ bs.length (by omega)).mono ?_
    rintro e wl ⟨vb, rfl, hv, hvb, hg⟩
    have hz2 := hg.size
    have hS2 : (fun wr => _) wl := And.intro (hS.1.g hg) (hS.2.g hg)
    replace HOW := lh (HOW.out.kept hg (.inr (by simp [Value.ownBlock])))
    replace HG := lh (g2 HG.out hg)
    (try replace HG6 := lh (g2 HG6.out hg))
    replace HT := lh (HT.out.kept hg (by simp))
    (try replace HM := lh (HM.out.kept hg (by simp)))
    (try replace HM2 := lh (HM2.out.kept hg (by simp)))
    have HV := lh hv
    have hlt2 := hv.lt
    clear hg hv
    refine hK.out _ _ (.inl (fun _ => hS2)) ?_
    replace hS := hS2; clear hK K hS2
    try simp only [zz]
    refine rM 10 fun K hK => ?_
    have ot := HT.out.lts
    have ov := HV.out.lt
    (try have om := HM.out.lt)
    (try have og := HM2.out.lt)
    go_simp
    obtain ⟨N10, hN⟩ : ∃ N, N = wl.heap.size := ⟨_, rfl⟩
    refine (open_calls (a := some ⟨g5, 0, none⟩) (c := c5) (S := S) (B := B) hl2 1).mono ?_
    rintro e wl ⟨v, rfl, hled, hg⟩
    have hz5 := hg.size
    have hled2 := hled.here hl1
    obtain ⟨M10, hM⟩ : ∃ M, M = wl.heap.size := ⟨_, rfl⟩
    rw [← hN, ← hM] at hled2
    have hS2 : (fun wr => _) wl := And.intro (hS.1.g hg) (hS.2.g hg)
    replace HOW := lh (HOW.out.kept hg (.inr (by simp [Value.ownBlock])))
    replace HG := lh (g2 HG.out hg)
    (try replace HG6 := lh (g2 HG6.out hg))
    replace HT := lh (HT.out.kept hg (by simp))
    replace HV := lh (HV.out.kept hg (by simp))
    (try replace HM := lh (HM.out.kept hg (by simp)))
    (try replace HM2 := lh (HM2.out.kept hg (by simp)))
    have HL := lh hled2
    have hN1 : M10 ≤ wl.heap.size := by omega
    have hN2 := HG.out.size
    have hN3 : tp < N10 ∧ tb < N10 ∧ vb < N10 := by omega
    (try have hN4 : lm < N10 := by omega)
    (try have hN5 : gm < N10 := by omega)
    have hN6 : g5 < N10 := by have := HG6.out.size; omega
    clear hg hled hled2 hM hN
    refine hK.out _ _ (.inl (fun _ => hS2)) ?_
    replace hS := hS2; clear hK K hS2
    try simp only [zz]
    refine rM 11 fun K hK => ?_
    refine wp_store_any HM.out _ _ _ 74 (.inr rfl) Tryz.underlying27 Tryz.underlying74 (by unfold maxLen; omega) (k := 1) (by unfold inU; omega) v rfl rfl rfl ?_
    intro wl hm hg
    have hz7 := hg.size
    have hc := Chg.one (S := fun i => i = lm) hg rfl
    have hS2 : (fun wr => _) wl := And.intro (hS.1.kept hg (by simp; omega)) (hS.2.kept hg (by simp; omega))
    replace HOW := lh (HOW.out.kept hg (.inr (by simp [Value.ownBlock]; omega)))
    replace HG := lh (gnew HG.out hg (by omega))
    replace HT := lh (hc.tree HT.out (by omega) (by omega))
    replace HV := lh (hc.votes HV.out (by omega))
    (try replace HM2 := lh (hc.raw HM2.out (by omega)))
    have hlm := LMap.one hm (LedAt.chg HL.out hc (fun i hi e => by have h1 := hi.1; have h2 := hi.2; omega))
    have HLM := lh hlm
    clear hm hg hc HM HL hlm HG6
    refine hK.out _ _ (.inl (fun _ => hS2)) ?_
    replace hS := hS2; clear hK K hS2
    refine pM 12 ?_
    simp only [zz]
    refine pM 14 ?_
    simp only [zz]
    refine rM 15 fun K hK => ?_
    have ot := HT.out.lts
    have ov := HV.out.lt
    have og := HM2.out.lt
    have ol := HLM.out.lt
    go_simp
    obtain ⟨p, hp⟩ : ∃ p, p = wl.heap.size := ⟨_, rfl⟩
    rw [← hp]
    refine nmA1 ?_
    intro wl hb hg
    rw [← hp] at hb
    have hz8 := hg.size
    have hS2 : (fun wr => _) wl := And.intro (hS.1.g hg) (hS.2.g hg)
    replace HOW := lh (HOW.out.kept hg (.inr (by simp [Value.ownBlock])))
    replace HG := lh (g2 HG.out hg)
    replace HT := lh (HT.out.kept hg (by simp))
    replace HV := lh (HV.out.kept hg (by simp))
    replace HM2 := lh (HM2.out.kept hg (by simp))
    replace HLM := lh (HLM.out.g hg)
    have HPB := lh hb
    have hpl := hb.lt
    have HPP := lh (Nat.le_of_eq hp.symm)
    have hp2 : tp < p ∧ tb < p ∧ vb < p ∧ gm < p ∧ lm < p ∧ M10 ≤ p := by omega
    clear hg hb hp
    refine hK.out _ _ (.inl (fun _ => hS2)) ?_
    replace hS := hS2; clear hK K hS2
    try simp only [zz]
    refine pM 16 ?_
    simp only [zz]
    refine pM 17 ?_
    simp only [zz]
    refine dM ?_ _
    go_wp2_with fail
    go_ret2
    have hlast := HG.out.size
    have hpw := HPP.out
    have hmut : w.heap.size ≤ p ∧ w.heap.size ≤ tp ∧ w.heap.size ≤ tb ∧ w.heap.size ≤ vb ∧ w.heap.size ≤ lm ∧ w.heap.size ≤ gm := by omega
    exact ⟨⟨p, tp, tb, vb, lm, gm, some ⟨g5, 0, none⟩, c5, .slice none 0 0, fun _ => False⟩, rfl, st0_at HPB.out HOW.out HT.out HV.out HLM.out HM2.out (by simp; omega) (fun i h1 h2 => by omega) (by omega), rfl, rfl,
     mut_ge hmut, HG.out⟩
  ·skip
   (try have ot := HT.out.lts)
   (try have ov := HV.out.lt)
   (try have og := HM2.out.lt)
   have hmm := HMM.out
   go_simp
   clear hmm
   obtain ⟨lm, hlm⟩ : ∃ lm, lm = wl.heap.size := ⟨_, rfl⟩
   rw [← hlm]
   have hlm2 : wl.heap.size ≤ lm := by omega
   have hlm3 := hS.1.lt
   have hlm4 := hS.2.lt
   have hlm5 := HOW.out.lt g5 rfl
   have hlm6 := HG.out.size
   refine nmAm ?_
   intro wl hm hz3 hg
   rw [← hlm] at hm hz3
   have hz4 := hg.size
   have hz6 : lm < wl.heap.size := by omega
   clear hlm hz3
   have hS2 : (fun wr => _) wl := And.intro (hS.1.g hg) (hS.2.g hg)
   replace HOW := lh (HOW.out.kept hg (.inr (by simp [Value.ownBlock])))
   replace HG := lh (g2 HG.out hg)
   (try replace HG6 := lh (g2 HG6.out hg))
   (try replace HT := lh (HT.out.kept hg (by simp)))
   (try replace HV := lh (HV.out.kept hg (by simp)))
   (try replace HM2 := lh (HM2.out.kept hg (by simp)))
   (try replace HL := lh (LedAt.g HL.out hg))
   have HM := lh hm
   clear hg hm
   refine hK.out _ _ (.inl (fun _ => hS2)) ?_
   replace hS := hS2; clear hK K hS2
   try simp only [zz]
   refine rM 1 fun K hK => ?_
   (try have om := HM.out.lt)
   (try have og := HM2.out.lt)
   go_simp
   refine (tof_calls _ (by unfold inU; omega)).mono ?_
   rintro e wl ⟨tp, tb, rfl, ht, htp, htb, hg⟩
   have hz1 := hg.size
   have hS2 : (fun wr => _) wl := And.intro (hS.1.g hg) (hS.2.g hg)
   replace HOW := lh (HOW.out.kept hg (.inr (by simp [Value.ownBlock])))
   replace HG := lh (g2 HG.out hg)
   (try replace HG6 := lh (g2 HG6.out hg))
   (try replace HM := lh (HM.out.kept hg (by simp)))
   (try replace HM2 := lh (HM2.out.kept hg (by simp)))
   have HT := lh ht
   have hlt1 := ht.lts
   have hne1 := ht.ne
   clear hg ht
   refine hK.out _ _ (.inl (fun _ => hS2)) ?_
   replace hS := hS2; clear hK K hS2
   try simp only [zz]
   refine rM 5 fun K hK => ?_
   (try have om := HM.out.lt)
   (try have og := HM2.out.lt)
   have ot := HT.out.lts
   go_simp
   refine (vof_calls _ bs.length (by omega)).mono ?_
   rintro e wl ⟨vb, rfl, hv, hvb, hg⟩
   have hz2 := hg.size
   have hS2 : (fun wr => _) wl := And.intro (hS.1.g hg) (hS.2.g hg)
   replace HOW := lh (HOW.out.kept hg (.inr (by simp [Value.ownBlock])))
   replace HG := lh (g2 HG.out hg)
   (try replace HG6 := lh (g2 HG6.out hg))
   replace HT := lh (HT.out.kept hg (by simp))
   (try replace HM := lh (HM.out.kept hg (by simp)))
   (try replace HM2 := lh (HM2.out.kept hg (by simp)))
   have HV := lh hv
   have hlt2 := hv.lt
   clear hg hv
   refine hK.out _ _ (.inl (fun _ => hS2)) ?_
   replace hS := hS2; clear hK K hS2
   try simp only [zz]
   refine rM 10 fun K hK => ?_
   have ot := HT.out.lts
   have ov := HV.out.lt
   (try have om := HM.out.lt)
   (try have og := HM2.out.lt)
   go_simp
   obtain ⟨N10, hN⟩ : ∃ N, N = wl.heap.size := ⟨_, rfl⟩
   refine (open_calls (a := some ⟨g5, 0, none⟩) (c := c5) (S := S) (B := B) hl2 1).mono ?_
   rintro e wl ⟨v, rfl, hled, hg⟩
   have hz5 := hg.size
   have hled2 := hled.here hl1
   obtain ⟨M10, hM⟩ : ∃ M, M = wl.heap.size := ⟨_, rfl⟩
   rw [← hN, ← hM] at hled2
   have hS2 : (fun wr => _) wl := And.intro (hS.1.g hg) (hS.2.g hg)
   replace HOW := lh (HOW.out.kept hg (.inr (by simp [Value.ownBlock])))
   replace HG := lh (g2 HG.out hg)
   (try replace HG6 := lh (g2 HG6.out hg))
   replace HT := lh (HT.out.kept hg (by simp))
   replace HV := lh (HV.out.kept hg (by simp))
   (try replace HM := lh (HM.out.kept hg (by simp)))
   (try replace HM2 := lh (HM2.out.kept hg (by simp)))
   have HL := lh hled2
   have hN1 : M10 ≤ wl.heap.size := by omega
   have hN2 := HG.out.size
   have hN3 : tp < N10 ∧ tb < N10 ∧ vb < N10 := by omega
   (try have hN4 : lm < N10 := by omega)
   (try have hN5 : gm < N10 := by omega)
   have hN6 : g5 < N10 := by have := HG6.out.size; omega
   clear hg hled hled2 hM hN
   refine hK.out _ _ (.inl (fun _ => hS2)) ?_
   replace hS := hS2; clear hK K hS2
   try simp only [zz]
   refine rM 11 fun K hK => ?_
   refine wp_store_any HM.out _ _ _ 74 (.inr rfl) Tryz.underlying27 Tryz.underlying74 (by unfold maxLen; omega) (k := 1) (by unfold inU; omega) v rfl rfl rfl ?_
   intro wl hm hg
   have hz7 := hg.size
   have hc := Chg.one (S := fun i => i = lm) hg rfl
   have hS2 : (fun wr => _) wl := And.intro (hS.1.kept hg (by simp; omega)) (hS.2.kept hg (by simp; omega))
   replace HOW := lh (HOW.out.kept hg (.inr (by simp [Value.ownBlock]; omega)))
   replace HG := lh (gnew HG.out hg (by omega))
   replace HT := lh (hc.tree HT.out (by omega) (by omega))
   replace HV := lh (hc.votes HV.out (by omega))
   (try replace HM2 := lh (hc.raw HM2.out (by omega)))
   have hlm := LMap.one hm (LedAt.chg HL.out hc (fun i hi e => by have h1 := hi.1; have h2 := hi.2; omega))
   have HLM := lh hlm
   clear hm hg hc HM HL hlm HG6
   refine hK.out _ _ (.inl (fun _ => hS2)) ?_
   replace hS := hS2; clear hK K hS2
   refine pM 12 ?_
   simp only [zz]
   refine pM 14 ?_
   simp only [zz]
   refine rM 15 fun K hK => ?_
   have ot := HT.out.lts
   have ov := HV.out.lt
   have og := HM2.out.lt
   have ol := HLM.out.lt
   go_simp
   obtain ⟨p, hp⟩ : ∃ p, p = wl.heap.size := ⟨_, rfl⟩
   rw [← hp]
   refine nmA1 ?_
   intro wl hb hg
   rw [← hp] at hb
   have hz8 := hg.size
   have hS2 : (fun wr => _) wl := And.intro (hS.1.g hg) (hS.2.g hg)
   replace HOW := lh (HOW.out.kept hg (.inr (by simp [Value.ownBlock])))
   replace HG := lh (g2 HG.out hg)
   replace HT := lh (HT.out.kept hg (by simp))
   replace HV := lh (HV.out.kept hg (by simp))
   replace HM2 := lh (HM2.out.kept hg (by simp))
   replace HLM := lh (HLM.out.g hg)
   have HPB := lh hb
   have hpl := hb.lt
   have HPP := lh (Nat.le_of_eq hp.symm)
   have hp2 : tp < p ∧ tb < p ∧ vb < p ∧ gm < p ∧ lm < p ∧ M10 ≤ p := by omega
   clear hg hb hp
   refine hK.out _ _ (.inl (fun _ => hS2)) ?_
   replace hS := hS2; clear hK K hS2
   try simp only [zz]
   refine pM 16 ?_
   simp only [zz]
   refine pM 17 ?_
   simp only [zz]
   refine dM ?_ _
   go_wp2_with fail
   go_ret2
   have hlast := HG.out.size
   have hpw := HPP.out
   have hmut : w.heap.size ≤ p ∧ w.heap.size ≤ tp ∧ w.heap.size ≤ tb ∧ w.heap.size ≤ vb ∧ w.heap.size ≤ lm ∧ w.heap.size ≤ gm := by omega
   exact ⟨⟨p, tp, tb, vb, lm, gm, some ⟨g5, 0, none⟩, c5, .slice none 0 0, fun _ => False⟩, rfl, st0_at HPB.out HOW.out HT.out HV.out HLM.out HM2.out (by simp; omega) (fun i h1 h2 => by omega) (by omega), rfl, rfl,
    mut_ge hmut, HG.out⟩
end
end Go.Proofs.YtndfpmboanohcaaGreatDoor
