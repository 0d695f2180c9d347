/- Contract of Make. -/
import Derived.Test.YtndfpmboanohcaaGreatDoorEvt
import Derived.Test.YtndfpmboanohcaaGreatDoorMkpToCfg
namespace Go.Proofs.YtndfpmboanohcaaGreatDoor
set_option maxRecDepth 100000
open Go.RowKit Go.Maps SkipPure
theorem eq_nil (k : Int) (w : World) : (binOp .eql 42 (.iface 46 (.int .i64 k)) .nilIface).run Tryz.prog w = .ok (.bool false) w := by
 go_simp
theorem info_evt : (Tryz.prog.info? 68).map (fun i => (i.zero, i.size, i.bytes)) = some (some (.agg ev0C), 28, 304) := by kernel_rfl
theorem elem_evt : ∃ i, Elem Tryz.prog 68 i (.agg ev0C) 28 304 := info_parts info_evt
section
variable {w0 : World} {ad na : Option Addr} {bs ns : List Int} {S B : Int} {c nc : Nat}
set_option maxHeartbeats 16000000 in
theorem make_calls (hb : Ints .u64 w0 ad bs) (hm : MayBe bs S B) (hb6 : bs.length = 6) (hn : ns = [] ∨ ∃ g o, na = some ⟨g, o, none⟩ ∧ Ints .u8 w0 na ns ∧ ns.length ≤ nc ∧ nc ≤ 9223372036854775807 ∧ ∀ x ∈ ns, 0 ≤ x ∧ x < 256) :
  Calls Tryz.prog 13 #[cfgV ad bs.length c S B, .slice na ns.length nc] w0 fun e w' => ∃ ga ce evs, e = .returned (.slice ga evs.length ce) ∧ evs.length ≤ 120 ∧ (∀ e ∈ evs, EvB e) ∧ EvRow w' w'.heap.size ga evs ∧ w0.grownBy w' none := by
 have HB := lh hb
 have HN := lh hn
 have HB6 := lh hb6
 have hl0 : w0.heap.size ≤ w0.heap.size := Nat.le_refl _
 clear hb hn hb6
 unfold cfgV
 go_enter Tryz.func13, Tryz.ntmps13
 go_upto_region 1 with (fail)
 refine nmC1 ?_
 intro W b0 hz hg
 have HB0 := lh b0
 replace HB := lh (Ints.kept HB.out hg)
 have HG := lh hg
 have HWS := lh hz
 obtain ⟨q0, hq0⟩ : ∃ q0, q0 = w0.heap.size := ⟨_, rfl⟩
 rw [← hq0] at HB0 ⊢
 clear b0 hz hg hq0
 obtain ⟨c0, c1, c2⟩ := HB0.out.c3
 go_wp2_with fail
 refine (sof_calls (bs := bs) HB.out hm).mono ?_
 rintro e w1 ⟨I, rfl, hst, hch, hex, hmx, hg⟩
 clear c0 c1 c2
 have hW := HG.out.size
 have hmx2 : ∀ i, Mut I i → w0.heap.size ≤ i := fun i hi => Nat.le_trans hW (hmx i hi)
 replace HG := lh (g2 HG.out hg)
 clear hg hmx hW HB HB0
 have HH := lh hst
 have HCH := lh hch
 have HEX := lh hex
 have HMX := lh hmx2
 clear hst hch hex hmx2
 have s3 := HH.out.s3
 go_upto_region 5 with (fail)
 clear s3
 refine nmC2 ?_
 intro W2 b1 b2 hz2 hg2
 have hw01 := HG.out.size
 have hml1 : ∀ i, Mut I i → i < w1.heap.size := fun i hi => HH.out.lt hi
 have HH1 := HH
 have HW1 := lh hg2
 obtain ⟨q1, hq_q1⟩ : ∃ q, q = w1.heap.size := ⟨_, rfl⟩
 rw [← hq_q1] at b1 b2 hz2 hw01 hml1 ⊢
 have HQ_q1 := lh hq_q1
 clear hq_q1
 replace HH := lh (HH.out.g hg2)
 replace HG := lh (g2 HG.out hg2)
 cases hns : ns with
 | nil =>
  rw [hns] at b2
  have d1 : W2.cell? ⟨q1 + 1, 1, none⟩ = some (.slice na 0 nc) := b2.at 1
  clear b1 b2 hz2 hg2 hns
  go_wp2_with fail
  refine wp_loop_rounds 1 ?_
  rw [rounds_succ]
  go_wp2
  go_ret
  exact ⟨none, 0, [], rfl, by simp, by simp, .inl rfl, HG.out⟩
 | cons n0 ns0 =>
  obtain ⟨g, o, hna, hni, hnl, hnc, hnx⟩ : ∃ g o, na = some ⟨g, o, none⟩ ∧ Ints .u8 w0 na ns ∧ ns.length ≤ nc ∧ nc ≤ 9223372036854775807 ∧ ∀ x ∈ ns, 0 ≤ x ∧ x < 256 := by
   rcases HN.out with h | h
   ·rw [hns] at h; cases h
   ·exact h
  have hgl : g < w0.heap.size := by
   have hni2 := hni
   rw [hna] at hni2
   exact Ints.lt hni2 (by rw [hns]; simp)
  have hmk : Mk W2 (q1 + 1) I.p (.slice (some ⟨q1, 0, none⟩) 1 1) (some g) := ⟨na, nc, ns, b2, .inr ⟨g, o, hna, hni.kept HG.out, by omega, hnl, hnc, hnx⟩, fun ad e => by rw [hna] at e; cases e; rfl⟩
  have hbl : Bls W2 w0.heap.size (.slice (some ⟨q1, 0, none⟩) 1 1) [1] := by
   refine ⟨⟨by simp, .inr ⟨q1, 1, _, rfl, hw01, b1, ?_⟩⟩, by simp, by simp, fun x hx => ?_⟩
   ·simp [maxLen]
   ·rw [List.mem_singleton.1 hx]; unfold inU; omega
  have hN : 0 < (st0 bs S B).bs.length := by show 0 < bs.length; rw [HB6.out]; omega
  have hst : StoreAt W2 (MI I (q1 + 1) I.ch I.tb (.slice (some ⟨q1, 0, none⟩) 1 1) (.slice none 0 0)) (st0 bs S B) := by
   have hqe := HQ_q1.out
   refine HH1.out.reex hN (Chg.of HW1.out) (MI I (q1 + 1) I.ch I.tb (.slice (some ⟨q1, 0, none⟩) 1 1) (.slice none 0 0)).ex (fun i hi => .inr ?_) (fun i hi => ?_)
   ·rcases hi with e | e | e
    ·omega
    ·have e2 : q1 = i := by simpa [Value.ownBlock] using e
     omega
    ·cases e
   ·rcases hi with e | e | e
    ·omega
    ·have e2 : q1 = i := by simpa [Value.ownBlock] using e
     omega
    ·cases e
  have hmw : MW w0 W2 I (q1 + 1) (some g) I.ch I.tb (.slice (some ⟨q1, 0, none⟩) 1 1) (.slice none 0 0) (st0 bs S B) 1 [1] [] [] :=
   ⟨hst, inv0 hm, HB6.out, hmk, hbl, World.ownsRow_nil _ _ _ _, by simp, by simp, HG.out, HMX.out, by omega, fun k hk => by cases hk; exact hgl⟩
  rw [← hns]
  clear hns hna hni hnl hnc hnx hgl hmk hbl hml1 hst HN b1 b2 hz2 hg2 HH HG HH1 HW1 HCH HEX HMX HWS hl0
  have HMW := lh hmw
  clear hmw
  go_wp2_with fail
  go_loopw [8] (fun v8 wr => ∃ c2 t2 vb σ k bl, ∃ (L P : List Ey), MW w0 wr I (q1 + 1) (some g) c2 t2 vb v8 σ k bl L P ∧ k ≤ 1 + L.length ∧ L.length ≤ 120 ∧ bl.length ≤ 1 + L.length) (fun v8 _ => 121 - slLen v8)
  case atStart => exact ⟨_, _, _, _, _, _, [], _, HMW.out, by simp, by simp, by simp⟩
  case round =>
   obtain ⟨c2, t2, vb, σ, k, bl, L, P, hmw, hk, hL, hbl⟩ := hrel
   clear HMW
   obtain ⟨oa, oc, rfl, _, _⟩ := own_slice2 hmw.row
   have HMW := lh hmw
   obtain ⟨na2, nc2, ns2, hmb, _⟩ := id hmw.mm
   have d1 : wr.cell? ⟨q1 + 1, 1, none⟩ = some (.slice na2 ns2.length nc2) := hmb.at 1
   clear hmw hmb
   by_cases h0 : 0 < ns2.length
   ·by_cases h1 : L.length < 120
    ·go_upto_region 7 with (fail)
     clear d1 h0
     have hszr := HMW.out.gr.size
     go_wp2_with (first
      | (go_at_call 19; refine (event_calls HMW.out.st HMW.out.inv HMW.out.b6 HMW.out.mm HMW.out.bls (.inl rfl) (fun k hk => Nat.lt_of_lt_of_le (HMW.out.nbl k hk) hszr)).mono ?_; rintro e w3 ⟨ev, cells, rfl, hevB, hev, hmk, hc⟩; have hsz3 := hc.size; have hev2 : EvAt w3 (OkE w0 w3 (MI I (q1 + 1) c2 t2 vb (.slice oa L.length oc))) ev cells := hev.chg (S := fun _ => False) (Chg.refl _ _) (fun _ _ h => h) (fun i hi => ⟨by have h2 := hi.1; omega, hi.2, fun hm => by have h2 := HMW.out.st.lt hm; have h3 := hi.1; omega, fun he => by have h2 := HMW.out.st.exlt i he; have h3 := hi.1; omega⟩); obtain ⟨va, vc, pa, pc, vw, vwc, aw, ac, bw, bc, rfl, _⟩ := id hev; have hmw := (HMW.out.num hmk hc).add (y := ⟨ev, (evC ev va vc pa pc vw vwc aw ac bw bc)⟩) ⟨hevB, hev2, rfl⟩; clear HMW hev hev2 hmk hc hszr hsz3; have HMW := lh hmw; have HEB := lh hevB; clear hmw hevB)
      | (refine wpList_store_new rfl (evC ev va vc pa pc vw vwc aw ac bw bc) ⟨_, _, rfl, rfl, rfl⟩ (by as_aux_lemma => kernel_rfl) rfl (by simp [evC, Value.oneCell']) ?_; intro w4 hbE hgE; have HBE := lh hbE; have HFR := lh (And.intro (fun i hm => HMW.out.st.lt (i := i) hm) HMW.out.st.exlt); have hmw := HMW.out.g hgE; clear HMW hbE hgE; have HMW := lh hmw; clear hmw)
      | refine wpList_load_blk (off := 0) HBE.out rfl _ rfl rfl _ Tryz.underlying68 rfl (evC ev va vc pa pc vw vwc aw ac bw bc) (by as_aux_lemma => kernel_rfl) rfl ?_)
     obtain ⟨g9, hg9⟩ : ∃ g9, g9 = w3.heap.size := ⟨_, rfl⟩
     rw [← hg9] at HBE HFR ⊢
     have hevw : EvAt w4 (fun i => i < w4.heap.size ∧ ¬ Mut (MI I (q1 + 1) c2 t2 vb (.slice oa L.length oc)) i) ev (evC ev va vc pa pc vw vwc aw ac bw bc) :=
      (HMW.out.evs ⟨ev, (evC ev va vc pa pc vw vwc aw ac bw bc)⟩ (by simp)).2.1.chg (S := fun _ => False) (Chg.refl _ _) (fun _ _ h => h) (fun i hi => ⟨hi.2.1, hi.2.2.1⟩)
     clear hg9
     refine (apply_calls HMW.out.st HMW.out.inv (by omega) HEB.out hevw).mono ?_
     rintro e w5 ⟨E, I2, σ2, cs2, rfl, hapd⟩
     have hq9 : q1 + 1 < g9 := HFR.out.2 _ (.inl rfl)
     have hbe := hapd.chg.blk HBE.out (fun hm => by have := HFR.out.1 g9 hm; omega)
     have hmw := HMW.out.app hapd
     clear HMW HBE HFR hapd hevw
     have HMW := lh hmw
     have HBE := lh hbe
     clear hmw hbe
     generalize I2.ch = c3 at HMW ⊢
     generalize I2.tb = t3 at HMW
     by_cases hE : E = 0
     ·subst hE
      rw [show errV 0 = .nilIface from rfl]
      have k0 : w5.cell? ⟨g9, 0, none⟩ = some (.int .i64 ev.k) := HBE.out.at 0
      by_cases hk1 : ev.k = 1
      ·have hk1' : (ev.k == 1) = true := by simp [hk1]
       clear hk1
       go_upto_region 10 with (fail)
       clear k0 hk1'
       obtain ⟨i1, hi1⟩ := elem_u
       have HI1 := lh hi1
       clear hi1
       have TK := lh fun w (hSw : (fun wr => MW w0 wr I (q1 + 1) (some g) c3 t3 vb (.slice oa L.length oc) σ2 (k + 1) bl L (⟨ev, (evC ev va vc pa pc vw vwc aw ac bw bc)⟩ :: P) ∧ Blk wr g9 (evC ev va vc pa pc vw vwc aw ac bw bc) 68) w) => show w.cell? ⟨q1 + 1, 2, none⟩ = some vb from hSw.1.mm.c2
       refine wp_region_late (fun wr => MW w0 wr I (q1 + 1) (some g) c3 t3 vb (.slice oa L.length oc) σ2 (k + 1) bl L (⟨ev, (evC ev va vc pa pc vw vwc aw ac bw bc)⟩ :: P) ∧ Blk wr g9 (evC ev va vc pa pc vw vwc aw ac bw bc) 68) [9, 12] (by as_aux_lemma => kernel_rfl) ?_
       have hgd := gdrew (gR w5 none)
       have hS : (fun wr => MW w0 wr I (q1 + 1) (some g) c3 t3 vb (.slice oa L.length oc) σ2 (k + 1) bl L (⟨ev, (evC ev va vc pa pc vw vwc aw ac bw bc)⟩ :: P) ∧ Blk wr g9 (evC ev va vc pa pc vw vwc aw ac bw bc) 68) w5.drew := ⟨HMW.out.g hgd, HBE.out.g hgd⟩
       clear hgd HMW HBE
       generalize w5.drew = w6 at hS ⊢
       refine pM 0 ?_
       simp only [zz]
       refine pM 1 ?_
       simp only [zz]
       refine pM 2 ?_
       simp only [zz]
       refine pM 3 ?_
       simp only [zz]
       refine pM 5 ?_
       simp only [zz]
       refine pM 6 ?_
       simp only [zz]
       refine tM 4 ?_
       simp only [zz]
       refine rM 7 fun K hK => ?_
       have e2 : w6.cell? ⟨g9, 2, none⟩ = some (.int .u64 ev.r) := hS.2.at 2
       go_simp
       have hS2 := hS
       refine hK.out _ _ (.inl (fun _ => hS2)) ?_
       replace hS := hS2; clear hK K hS2
       try simp only [zz]
       refine rM 8 fun K hK => ?_
       go_simp
       refine nmA1 ?_
       intro w7 hmb hgg
       generalize w6.heap.size = g7 at hmb ⊢
       have hS2 : (fun wr => _) w7 := And.intro (hS.1.g hgg) (hS.2.g hgg)
       have HMB := lh hmb
       clear hmb hgg
       refine hK.out _ _ (.inl (fun _ => hS2)) ?_
       replace hS := hS2; clear hK K hS2
       try simp only [zz]
       refine rM 9 fun K hK => ?_
       have hsz7 := hS.1.gr.size
       refine wp_append_lies _ _ _ 34 (by rfl) w0.heap.size 27 i1 (.int .u64 0) 1 8 Tryz.underlying34 HI1.out.1 HI1.out.2.1 HI1.out.2.2.1 HI1.out.2.2.2 rfl (by decide) vb bl.length (bl.map (Value.int .u64)) (by rfl) hS.1.bls.row ⟨g7, 0, none⟩ 1 1
        [.int .u64 ev.r] (by rfl) (by rfl) (World.news_of_block HMB.out) (by simp [Value.oneCell']) (by omega) (by unfold maxLen; omega) (by omega) hsz7 _ rfl ?_
       intro g5 c5 w8 h5 hg5 hat5 hlt5
       have hpb := hS.1.pushb h5 hg5 (hat5.imp id (fun e => Nat.le_of_eq e.symm)) hlt5 HEB.out.r (by omega)
       obtain ⟨na3, nc3, ns3, hmb3, _⟩ := id hS.1.mm
       have hb8 := blk_row hmb3 hS.1.bls.row hg5 (by decide)
       have d2 : w8.cell? ⟨q1 + 1, 2, none⟩ = some vb := hb8.at 2
       have f2 := hb8.fr 2
       have hbe8 := blk_row hS.2 hS.1.bls.row hg5 (by decide)
       have HPB := lh (And.intro hpb hbe8)
       clear hpb h5 hg5 hat5 hlt5 hmb3 hb8 hbe8 hsz7
       refine hK.out _ _ (.inr (by decide)) ?_
       clear hK K
       try simp only [zz]
       refine pM 10 ?_
       simp only [zz]
       refine pM 11 ?_
       simp only [zz]
       refine rM 12 fun K hK => ?_
       refine step_store_slot (v := .slice (some ⟨g5, 0, none⟩) (bl.length + 1) c5) d2 f2 rfl ⟨_, _, rfl, rfl, rfl⟩ rfl rfl (by as_aux_lemma => kernel_rfl) ?_
       refine hK.out _ _ (.inr (by decide)) ?_
       clear hK K
       try simp only [zz]
       refine dM ?_ _
       have hmw := HPB.out.1
       have hbe := HPB.out.2.kept (gset w8 (q1 + 1) 2 (.slice (some ⟨g5, 0, none⟩) (bl.length + 1) c5)) (by simp; omega)
       generalize w8.setCell ⟨q1 + 1, 2, none⟩ (.slice (some ⟨g5, 0, none⟩) (bl.length + 1) c5) = w10 at hmw hbe ⊢
       clear hS d2 f2 HPB
       have HMW := lh hmw
       have HBE := lh hbe
       clear hmw hbe
       go_upto_region 11 with (fail)
       have hsz9 := HMW.out.gr.size
       obtain ⟨i0, hi0⟩ := elem_evt
       have HI0 := lh hi0
       clear hi0
       go_wp2_with (first
        | refine wpList_load_blk (off := 0) HBE.out rfl _ rfl rfl _ Tryz.underlying68 rfl #[.int .i64 ev.k, .int .i64 ev.s, .int .u64 ev.r, .int .u64 ev.q, .int .i64 ev.bs, .slice va ev.vs.length vc, .slice pa ev.ps.length pc, .int .i64 ev.v.sl, .int .u64 ev.v.hd, .int .i64 ev.v.se, .int .u64 ev.v.sr, .int .i64 ev.v.te, .int .u64 ev.v.tr, .slice vw ev.v.who.length vwc, .int .i64 ev.a.sl, .int .u64 ev.a.hd, .int .i64 ev.a.se, .int .u64 ev.a.sr, .int .i64 ev.a.te, .int .u64 ev.a.tr, .slice aw ev.a.who.length ac, .int .i64 ev.b.sl, .int .u64 ev.b.hd, .int .i64 ev.b.se, .int .u64 ev.b.sr, .int .i64 ev.b.te, .int .u64 ev.b.tr, .slice bw ev.b.who.length bc] (by as_aux_lemma => kernel_rfl) rfl ?_
        | (at_builtin; refine wpList_push2 rfl _ _ 38 rfl w0.heap.size 68 i0 (.agg ev0C) 28 304 Tryz.underlying38 HI0.out rfl (by decide) _ L.length (L.flatMap eyC) rfl HMW.out.row rfl rfl (by simp [Value.oneCell']) (by unfold maxLen; omega) (by omega) hsz9 ?_; intro gl cl w9 hl hgl7 hatl hltl; have HL := lh (And.intro hl (And.intro hgl7 (And.intro hatl hltl))); clear hl hgl7 hatl hltl))
       have hmw := HMW.out.pusho (y := ⟨ev, (evC ev va vc pa pc vw vwc aw ac bw bc)⟩) HL.out.1 HL.out.2.1 HL.out.2.2.1 HL.out.2.2.2 (by simp)
       exact ⟨⟨_, _, _, _, _, _, L ++ [⟨ev, (evC ev va vc pa pc vw vwc aw ac bw bc)⟩], _, hmw, by rw [List.length_append, List.length_singleton]; omega, by rw [List.length_append, List.length_singleton]; omega, by simp only [List.length_append, List.length_singleton]; omega⟩, by simp [slLen]; omega⟩
      ·have hk1' : (ev.k == 1) = false := by simp [hk1]
       clear hk1
       go_upto_region 11 with (fail)
       have hsz9 := HMW.out.gr.size
       obtain ⟨i0, hi0⟩ := elem_evt
       have HI0 := lh hi0
       clear hi0
       go_wp2_with (first
        | refine wpList_load_blk (off := 0) HBE.out rfl _ rfl rfl _ Tryz.underlying68 rfl #[.int .i64 ev.k, .int .i64 ev.s, .int .u64 ev.r, .int .u64 ev.q, .int .i64 ev.bs, .slice va ev.vs.length vc, .slice pa ev.ps.length pc, .int .i64 ev.v.sl, .int .u64 ev.v.hd, .int .i64 ev.v.se, .int .u64 ev.v.sr, .int .i64 ev.v.te, .int .u64 ev.v.tr, .slice vw ev.v.who.length vwc, .int .i64 ev.a.sl, .int .u64 ev.a.hd, .int .i64 ev.a.se, .int .u64 ev.a.sr, .int .i64 ev.a.te, .int .u64 ev.a.tr, .slice aw ev.a.who.length ac, .int .i64 ev.b.sl, .int .u64 ev.b.hd, .int .i64 ev.b.se, .int .u64 ev.b.sr, .int .i64 ev.b.te, .int .u64 ev.b.tr, .slice bw ev.b.who.length bc] (by as_aux_lemma => kernel_rfl) rfl ?_
        | (at_builtin; refine wpList_push2 rfl _ _ 38 rfl w0.heap.size 68 i0 (.agg ev0C) 28 304 Tryz.underlying38 HI0.out rfl (by decide) _ L.length (L.flatMap eyC) rfl HMW.out.row rfl rfl (by simp [Value.oneCell']) (by unfold maxLen; omega) (by omega) hsz9 ?_; intro gl cl w9 hl hgl7 hatl hltl; have HL := lh (And.intro hl (And.intro hgl7 (And.intro hatl hltl))); clear hl hgl7 hatl hltl))
       have hmw := HMW.out.pusho (y := ⟨ev, (evC ev va vc pa pc vw vwc aw ac bw bc)⟩) HL.out.1 HL.out.2.1 HL.out.2.2.1 HL.out.2.2.2 (by simp)
       exact ⟨⟨_, _, _, _, _, _, L ++ [⟨ev, (evC ev va vc pa pc vw vwc aw ac bw bc)⟩], _, hmw, by rw [List.length_append, List.length_singleton]; omega, by rw [List.length_append, List.length_singleton]; omega, by simp only [List.length_append, List.length_singleton]; omega⟩, by simp [slLen]; omega⟩
     ·have hv : errV E = .iface 46 (.int .i64 E) := by unfold errV; rw [if_neg hE]
      rw [hv]
      have hnn := eq_nil E
      clear hE hv
      go_upto_region 11 with (fail)
      have hsz9 := HMW.out.gr.size
      obtain ⟨i0, hi0⟩ := elem_evt
      have HI0 := lh hi0
      clear hi0
      go_wp2_with (first
       | refine wpList_load_blk (off := 0) HBE.out rfl _ rfl rfl _ Tryz.underlying68 rfl #[.int .i64 ev.k, .int .i64 ev.s, .int .u64 ev.r, .int .u64 ev.q, .int .i64 ev.bs, .slice va ev.vs.length vc, .slice pa ev.ps.length pc, .int .i64 ev.v.sl, .int .u64 ev.v.hd, .int .i64 ev.v.se, .int .u64 ev.v.sr, .int .i64 ev.v.te, .int .u64 ev.v.tr, .slice vw ev.v.who.length vwc, .int .i64 ev.a.sl, .int .u64 ev.a.hd, .int .i64 ev.a.se, .int .u64 ev.a.sr, .int .i64 ev.a.te, .int .u64 ev.a.tr, .slice aw ev.a.who.length ac, .int .i64 ev.b.sl, .int .u64 ev.b.hd, .int .i64 ev.b.se, .int .u64 ev.b.sr, .int .i64 ev.b.te, .int .u64 ev.b.tr, .slice bw ev.b.who.length bc] (by as_aux_lemma => kernel_rfl) rfl ?_
       | (at_builtin; refine wpList_push2 rfl _ _ 38 rfl w0.heap.size 68 i0 (.agg ev0C) 28 304 Tryz.underlying38 HI0.out rfl (by decide) _ L.length (L.flatMap eyC) rfl HMW.out.row rfl rfl (by simp [Value.oneCell']) (by unfold maxLen; omega) (by omega) hsz9 ?_; intro gl cl w9 hl hgl7 hatl hltl; have HL := lh (And.intro hl (And.intro hgl7 (And.intro hatl hltl))); clear hl hgl7 hatl hltl))
      have hmw := HMW.out.pusho (y := ⟨ev, (evC ev va vc pa pc vw vwc aw ac bw bc)⟩) HL.out.1 HL.out.2.1 HL.out.2.2.1 HL.out.2.2.2 (by simp)
      exact ⟨⟨_, _, _, _, _, _, L ++ [⟨ev, (evC ev va vc pa pc vw vwc aw ac bw bc)⟩], _, hmw, by rw [List.length_append, List.length_singleton]; omega, by rw [List.length_append, List.length_singleton]; omega, by simp only [List.length_append, List.length_singleton]; omega⟩, by simp [slLen]; omega⟩
    ·have hL2 : L.length = 120 := by omega
     go_wp2_with fail
     go_ret
     obtain ⟨ga, ce, hvo, h2, h3⟩ := HMW.out.evrow
     exact ⟨ga, ce, L.map Ey.e, by rw [hvo]; rfl, by rw [List.length_map]; exact hL, h3, h2, HMW.out.gr⟩
   ·have hn2 : ns2.length = 0 := by omega
    rw [hn2] at d1
    clear h0 hn2
    go_wp2_with fail
    go_ret
    obtain ⟨ga, ce, hvo, h2, h3⟩ := HMW.out.evrow
    exact ⟨ga, ce, L.map Ey.e, by rw [hvo]; rfl, by rw [List.length_map]; exact hL, h3, h2, HMW.out.gr⟩
end
end Go.Proofs.YtndfpmboanohcaaGreatDoor
