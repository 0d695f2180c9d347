/- The walk of TopMade. -/
import Derived.Test.YtndfpmboanohcaaGreatDoorMak
import Derived.Below
import Derived.Laws.IdiomStrings
namespace Go.Proofs.YtndfpmboanohcaaGreatDoor
set_option maxRecDepth 100000
open Go.RowKit Go.Maps SkipPure
theorem grown_lt {w w' : World} (h : w.grownBy w' none) : Below w.heap.size w w' := ⟨h.os, h.tape, h.output, h.size, fun i hi => h.block i hi (by simp)⟩
theorem row_num {w : World} {a : Option Addr} {len cap : Nat} {zs : List Int} (h : (a = none ∧ len = 0 ∧ cap = 0 ∧ zs = []) ∨ ∃ x, a = some x ∧ len ≤ cap ∧ cap ≤ maxLen ∧ zs.length = cap ∧ (∀ i, i < zs.length → w.cell? (x.add i) = some (.int .u8 (zs.getD i 0))) ∧ ∀ n ∈ zs, (Lit.int .u8 n).wf = true) :
  ∃ ns : List Int, ns.length = len ∧ Ints .u8 w a ns ∧ (∀ x ∈ ns, 0 ≤ x ∧ x < 256) ∧ (ns = [] ∨ ∃ g o, a = some ⟨g, o, none⟩ ∧ Ints .u8 w a ns ∧ ns.length ≤ cap ∧ cap ≤ 9223372036854775807 ∧ ∀ x ∈ ns, 0 ≤ x ∧ x < 256) := by
 rcases h with ⟨_, rfl, _, _⟩ | ⟨x, rfl, h1, h2, h3, h4, h5⟩
 ·exact ⟨[], rfl, fun i hi => by simp at hi, by simp, .inl rfl⟩
 ·have hl : (zs.take len).length = len := by rw [List.length_take]; omega
  have hi : Ints .u8 w (some x) (zs.take len) := fun i hi => by
   rw [hl] at hi
   refine ⟨x, rfl, ?_⟩
   rw [h4 i (by omega), List.getD_eq_getElem?_getD, List.getD_eq_getElem?_getD, List.getElem?_take, if_pos hi]
  have hb : ∀ y ∈ zs.take len, 0 ≤ y ∧ y < 256 := fun y hy => by
   have h := h5 y (List.mem_of_mem_take hy)
   have h6 : 0 ≤ y ∧ y ≤ 255 := by simpa [Lit.wf, IntKind.min, IntKind.max, IntKind.signed, IntKind.bits] using h
   omega
  refine ⟨zs.take len, hl, hi, hb, ?_⟩
  rcases Nat.eq_zero_or_pos len with h0 | h0
  ·left; rw [h0]; simp
  ·right
   obtain ⟨g, o, sp⟩ := x
   have hs : sp = none := by
    have hc := h4 0 (by omega)
    have e : (⟨g, o, sp⟩ : Addr).add 0 = ⟨g, o, sp⟩ := rfl
    rw [e] at hc
    unfold World.cell? at hc
    cases sp with
    | none => rfl
    | some y =>
     simp only [Option.isSome_some, if_true] at hc
     split at hc <;> cases hc
   subst hs
   exact ⟨g, o, rfl, hi, by omega, by unfold maxLen at h2; omega, hb⟩
theorem errs_ok {E : Int} (h : ErrOk E) : (E == 1) = false ∧ (E == 2) = false ∧ (E == 12) = false := by
 unfold ErrOk at h
 simp
 omega
section
variable {w0 : World} {na ba : Option Addr} {nc bc : Nat} {ns bls : List Int} {s : Int}
set_option maxHeartbeats 16000000 in
theorem made_calls (haw : ∀ w, Calls Tryz.prog 6 #[] w fun e w' => e = .returned (.bool true) ∧ w.grownBy w' none)
  (hE : w0.cell? ⟨0, 0, none⟩ = some (.iface 199 (.agg #[.pointer (some ⟨1, 42, none⟩)])))
  (hn : ns = [] ∨ ∃ g o, na = some ⟨g, o, none⟩ ∧ Ints .u8 w0 na ns ∧ ns.length ≤ nc ∧ nc ≤ 9223372036854775807 ∧ ∀ x ∈ ns, 0 ≤ x ∧ x < 256) (hb : Ints .u8 w0 ba bls) (hbb : ∀ x ∈ bls, 0 ≤ x ∧ x < 256) (hs : 0 ≤ s ∧ s < 256) :
  Calls Tryz.prog 4 #[.slice na ns.length nc, .slice ba bls.length bc, .int .u8 s] w0 fun e w' => e = .returned (.bool true) ∧ w0.grownBy w' none := by
 have HAW := lh haw
 have HE := lh hE
 have HN := lh hn
 have HB := lh hb
 have HBB := lh hbb
 clear haw hE hn hb hbb
 go_enter Tryz.func4, Tryz.ntmps4
 go_wp2_with fail
 refine (HAW.out w0).mono ?_
 rintro e w1 ⟨rfl, hg⟩
 have HG := lh hg
 clear hg
 go_wp2_with fail
 refine (config_calls (HB.out.kept HG.out) HBB.out hs).mono ?_
 rintro e w2 ⟨ad, c, bs, S, rfl, hi, hb6, hmay, hg⟩
 have HB6 := lh hb6
 have HM := lh hmay
 clear hb6 hmay
 replace HG := lh (g2 HG.out hg)
 clear hg
 unfold cfgV
 go_upto_region 4 with (fail)
 refine nmC1 ?_
 intro W b0 hz hg
 have hl : w0.heap.size ≤ w2.heap.size := HG.out.size
 obtain ⟨q, hq_q⟩ : ∃ q, q = w2.heap.size := ⟨_, rfl⟩
 rw [← hq_q] at b0 hz hl ⊢
 have HQ_q := lh hq_q
 clear hq_q
 replace HG := lh (g2 HG.out hg)
 have HI := lh (Ints.kept hi hg)
 have HB0 := lh b0
 clear b0
 clear hi hg hz
 obtain ⟨c0, c1, c2⟩ := HB0.out.c3
 go_wp2_with fail
 have hnw : ns = [] ∨ ∃ g o, na = some ⟨g, o, none⟩ ∧ Ints .u8 W na ns ∧ ns.length ≤ nc ∧ nc ≤ 9223372036854775807 ∧ ∀ x ∈ ns, 0 ≤ x ∧ x < 256 := by
  rcases HN.out with h | ⟨g, o, h1, h2, h3⟩
  ·exact .inl h
  ·exact .inr ⟨g, o, h1, h2.kept HG.out, h3⟩
 have HN2 := lh hnw
 clear hnw
 refine (make_calls (c := c) HI.out HM.out HB6.out HN2.out).mono ?_
 rintro e w3 ⟨ga, ce, evs, rfl, hel, hevb, hev, hg⟩
 replace HG := lh (g2 HG.out hg)
 replace HI := lh (Ints.kept HI.out hg)
 replace HB0 := lh (HB0.out.g hg)
 clear hg c0 c1 c2 HN2
 have HEB := lh hevb
 have HEV := lh hev
 clear hevb hev
 obtain ⟨c0, c1, c2⟩ := HB0.out.c3
 go_wp2_with fail
 refine (run_events (c := c) HI.out HM.out (cell_g HE.out HG.out) HEB.out HEV.out (by omega)).mono ?_
 rintro e w4 ⟨v, es, rfl, hrow, hesl, hok, hg⟩
 replace HG := lh (g2 HG.out hg)
 clear hg c0 c1 c2 HB0 HI
 obtain ⟨va, vc, rfl, hva⟩ := own_slice hrow
 have HROW := lh hrow
 have HOK := lh hok
 have HVA := lh hva
 clear hrow hok hva
 have hes2 : es.length = evs.length := hesl
 rw [← hes2]
 have hel2 : es.length ≤ 120 := by rw [hes2]; exact hel
 clear hesl hes2 hel HEV HEB
 go_upto_region 8 with (fail)
 go_wp2_with fail
 go_loopw [38] (fun v38 wr => ∃ (j : Nat), v38 = .int .i64 (j : Int) ∧ j ≤ es.length ∧ w4.grownBy wr none) (fun v38 _ => es.length - (intOf v38).toNat)
 case atStart => exact ⟨0, rfl, by omega, gR _ _⟩
 case round =>
  obtain ⟨j, rfl, hj, hgr⟩ := hrel
  by_cases hlt : j < es.length
  ·obtain ⟨x, hx⟩ : ∃ x, es[j]? = some x := ⟨_, List.getElem?_eq_getElem hlt⟩
   obtain ⟨hE1, a1, n1, k1, hx2⟩ := HOK.out x (List.mem_of_getElem? hx)
   obtain ⟨g, hga⟩ := HVA.out (by omega)
   have hrow := HROW.out
   rw [hga] at hrow
   have hc : ∀ t u, t < 2 → (lnC x)[t]? = some u → wr.cell? ⟨g, j * 2 + t, none⟩ = some u := fun t u ht hu => by
    have h1 := hrow.cells (g := g) rfl (j * 2 + t) u (by rw [show lnRow es = es.flatMap lnC from rfl, flat_get lnC 2 (fun _ => rfl) es j x hx t ht]; exact hu)
    rw [add0] at h1
    exact cell_g h1 hgr
   obtain ⟨E, y⟩ := x
   simp only at hE1 hx2
   subst hx2
   subst hga
   have d0 : wr.cell? ⟨g, j * 2, none⟩ = some (.int .i64 E) := hc 0 _ (by omega) rfl
   have d1 : wr.cell? ⟨g, j * 2 + 1, none⟩ = some (.slice a1 n1 k1) := hc 1 _ (by omega) rfl
   obtain ⟨e1, e2, e3⟩ := errs_ok hE1
   have HGR := lh hgr
   clear hc hrow hx hE1 hgr
   go_upto_region 11 with (fail)
   refine nmC1 ?_
   intro W5 b5 hz5 hg5
   have f0 := b5.at 0
   have hgl := hg5.size
   have HGR2 := lh (g2 HGR.out hg5)
   clear d0 d1 hg5
   go_wp2_with fail
   exact ⟨⟨j + 1, by simp, by omega, HGR2.out⟩, by simp [intOf]; omega⟩
  ·have hje : j = es.length := by omega
   have HGR := lh hgr
   clear hgr
   go_wp2_with fail
   go_ret
   exact ⟨rfl, g2 HG.out HGR.out⟩
end
section
variable {w : World} {ad : Option Addr} {c : Nat}
theorem sgA_parts : sgA.F = F1 ∧ sgA.f = 1 ∧ sgA.jr = 1 := by
 rw [sgA_eq]
 exact ⟨rfl, rfl, rfl⟩
set_option maxHeartbeats 8000000 in
theorem run_bucket (hb : Ints .u64 w ad [5]) {ge ce : Nat} (he : Blk w ge evs2 68) :
  Calls Tryz.prog 14 #[.int .i64 3, cfgV ad 1 c 4 0, .slice (some ⟨ge, 0, none⟩) 2 ce] w fun e w' => ∃ v s1 s2, e = .returned (.tuple #[v, .nilIface]) ∧ w'.ownsRow w.heap.size 48 2 v 2 [.int .i64 0, s1, .int .i64 0, s2] ∧
   w'.ownsRow w.heap.size 5 1 s1 (canonF sgA [1] 1).length (canonF sgA [1] 1) ∧ w'.ownsRow w.heap.size 5 1 s2 (canonF sgB [1, 2] 2).length (canonF sgB [1, 2] 2) ∧ w.grownBy w' none := by
 have HB := lh hb
 have HEV := lh he
 have hgl := he.lt
 clear hb he
 unfold cfgV
 go_enter Tryz.func14, Tryz.ntmps14
 go_upto_region 1 with (fail)
 refine nmC1 ?_
 intro W b0 hz hg
 obtain ⟨q, hq_q⟩ : ∃ q, q = w.heap.size := ⟨_, rfl⟩
 rw [← hq_q] at b0 hz hgl ⊢
 have HQ_q := lh hq_q
 clear hq_q
 have HQ := lh b0
 have HG := lh hg
 clear b0 hg
 replace HB := lh (Ints.kept HB.out HG.out)
 replace HEV := lh (HEV.out.g HG.out)
 obtain ⟨c0, c1, c2⟩ := HQ.out.c3
 go_wp2_with fail
 refine (rof_bucket (bs := [5]) HB.out may1).mono ?_
 rintro e w1 ⟨I, J, rfl, hst, ha, hex, hg, hm1, hm2⟩
 have hwW := HG.out.size
 replace HEV := lh (HEV.out.g hg)
 replace HG := lh (g2 HG.out hg)
 have h1 : ∀ i, Mut I i → w.heap.size ≤ i := fun i hi => Nat.le_trans hwW (hm1 i hi)
 have h2 : ∀ i, BOwn J i → w.heap.size ≤ i := fun i hi => Nat.le_trans hwW (hm2 i hi)
 clear hg c0 c1 c2 HB HQ hwW hm1 hm2
 have HH := lh hst
 have HA := lh ha
 have HEX := lh hex
 have HM1 := lh h1
 have HM2 := lh h2
 clear hst ha hex h1 h2
 go_wp2_with fail
 have mf := fun w => me_feedB J.q w
 have mh := fun w => me_headB J.q w
 refine wp_loop_rounds 3 ?_
 rw [rounds_succ]
 go_upto_region 7 with (fail)
 go_wp2_with (first
  | refine wpList_load_blk (off := 0) HBE.out rfl _ rfl rfl _ Tryz.underlying68 rfl (evCells 0 2 0 0 0 (.slice none 0 0) (.slice none 0 0)) (by as_aux_lemma => kernel_rfl) rfl ?_
  | refine wpList_load_blk (off := 0) HEV.out rfl _ rfl rfl _ Tryz.underlying68 rfl (evCells 0 2 0 0 0 (.slice none 0 0) (.slice none 0 0)) (by as_aux_lemma => kernel_rfl) rfl ?_
  | (refine wpList_store_new rfl (evCells 0 2 0 0 0 (.slice none 0 0) (.slice none 0 0)) ⟨_, _, rfl, rfl, rfl⟩ (by as_aux_lemma => kernel_rfl) rfl (by simp [evCells, Value.oneCell']) ?_; intro w2 hbE hgE; have HBE := lh hbE; replace HH := lh (HH.out.g hgE); replace HA := lh (HA.out.kept0 hgE); replace HEV := lh (HEV.out.g hgE); replace HG := lh (g2 HG.out hgE); clear hbE hgE))
 refine (bfeed_tick HH.out HA.out (fun i hi => by rw [HEX.out]; exact hi) 2).mono ?_
 rintro e w3 ⟨rfl, hst, ha, hc⟩
 rw [errV0]
 have hgw := HG.out.size
 have hgg := (((Chg.of (S := Mut I) HG.out)).trans hc).non HM1.out
 replace HEV := lh (hc.blk HEV.out (fun h => by have := HM1.out ge h; have := HQ_q.out; omega))
 clear HH HA HG HBE hgw hc
 have HH := lh hst
 have HA := lh ha
 have HG := lh hgg
 clear hst ha hgg
 change Hid (StoreAt w3 _ sgA) at HH
 go_wp2_with fail
 refine (number_nil w3).mono ?_
 rintro e w4 ⟨rfl, hg⟩
 replace HEV := lh (HEV.out.g hg)
 replace HH := lh (HH.out.g hg)
 replace HA := lh (HA.out.kept0 hg)
 replace HG := lh (g2 HG.out hg)
 clear hg
 go_wp2_with fail
 obtain ⟨a1, a2, a3⟩ := sgA_parts
 refine (bhead_calls HH.out wfA HA.out risA (by simp) (sortUpTo2.less (by rw [sgA_eq]; show 1 ≤ 2; omega)) (wt0 sgA bkt0) (fun W hW r hr => weight0_calls (HH.out.g hW) wfA (HA.out.kept0 hW) rfl rfl wfA.bo hr)).mono ?_
 rintro e w5 ⟨r, rfl, hr, hg⟩
 rw [a1, a2, a3] at hr
 obtain rfl := hr.unique (hdA _ _)
 replace HEV := lh (HEV.out.g hg)
 replace HH := lh (HH.out.g hg)
 replace HA := lh (HA.out.kept0 hg)
 replace HG := lh (g2 HG.out hg)
 clear hg hr a1 a2 a3
 obtain ⟨N1, hN1⟩ : ∃ N1, N1 = w5.heap.size := ⟨_, rfl⟩
 have hmx : ∀ i, Mut I i → i < N1 := fun i hi => by rw [hN1]; exact HH.out.lt hi
 have hox : ∀ i, BOwn J i → i < N1 := fun i hi => by
  rw [hN1]
  rcases hi with e | e | e
  ·rw [e]; exact HA.out.blk.lt
  ·rw [e]; exact HA.out.buckets.lt
  ·exact (HA.out.lokb i e).1
 have HMX := lh hmx
 have HOX := lh hox
 clear hmx hox
 go_wp2_with fail
 refine (canon_calls HH.out wfA parA risA (sortUpTo2.less (by rw [sgA_eq]; show 1 ≤ 2; omega)) (hd := 1) (by unfold inU; omega)).mono ?_
 rintro e w6 ⟨s1, rfl, hs1, hg⟩
 rw [← hN1] at hs1
 have hw6 : N1 ≤ w6.heap.size := by rw [hN1]; exact hg.size
 have hwN : w.heap.size ≤ N1 := by rw [hN1]; exact HG.out.size
 have hpos1 : 0 < (canonF sgA [1] 1).length := by unfold canonF; simp [putF_len, headN]; omega
 obtain ⟨gs1, cs1, rfl, _, _⟩ := hs1.form hpos1
 obtain ⟨L1, hL1⟩ : ∃ L1, L1 = canonF sgA [1] 1 := ⟨_, rfl⟩
 rw [← hL1] at hs1 ⊢
 replace HEV := lh (HEV.out.g hg)
 replace HH := lh (HH.out.g hg)
 replace HA := lh (HA.out.kept0 hg)
 replace HG := lh (g2 HG.out hg)
 have HS1 := lh hs1
 have HL1 := lh hL1
 clear hs1 hL1
 clear hg hpos1 hN1
 obtain ⟨i0, hi0⟩ := elem_line
 have HI := lh hi0
 clear hi0
 go_wp2_with (at_builtin; refine wpList_append_lies _ rfl _ _ 40 rfl N1 48 i0 (.agg #[.int .i64 0, .slice none 0 0]) 2 32 Tryz.underlying40 HI.out.1 HI.out.2.1 HI.out.2.2.1 HI.out.2.2.2 rfl (by decide) (.slice none 0 0) 0 [] rfl (World.ownsRow_nil _ _ _ _) ⟨w6.heap.size, 0, none⟩ 1 1 [.int .i64 0, .slice (some ⟨gs1, 0, none⟩) L1.length cs1] rfl rfl (World.news_of_block (MapKept.heap_alloc _ _).1) (by simp [Value.oneCell']) (by decide) (by unfold maxLen; omega) (by omega) (by simp; omega) _ rfl ?_; intro gl cl w7 hl hgl7 hatl hltl; have HL := lh hl; have HG7 := lh hgl7; clear hl hgl7 hatl hltl)
 have hg7 : w6.grownBy w7 none := g2 (World.grownBy_alloc w6 _ none) HG7.out
 have hl := HL.out
 rw [Nat.zero_add, List.nil_append] at hl
 replace HEV := lh (HEV.out.g hg7)
 replace HH := lh (HH.out.g hg7)
 replace HA := lh (HA.out.kept0 hg7)
 replace HS1 := lh (HS1.out.kept hg7 (.inr (by simp [Value.ownBlock])))
 replace HG := lh (g2 HG.out hg7)
 clear HL HG7
 have HL := lh hl
 clear hl hg7
 rw [rounds_succ]
 go_wp2_with (first
  | refine wpList_load_blk (off := 0) HBE.out rfl _ rfl rfl _ Tryz.underlying68 rfl (evCells 1 0 2 1 2 (.slice none 0 0) (.slice none 0 0)) (by as_aux_lemma => kernel_rfl) rfl ?_
  | refine wpList_load_blk (off := 28) HEV.out rfl _ rfl rfl _ Tryz.underlying68 rfl (evCells 1 0 2 1 2 (.slice none 0 0) (.slice none 0 0)) (by as_aux_lemma => kernel_rfl) rfl ?_
  | (refine wpList_store_new rfl (evCells 1 0 2 1 2 (.slice none 0 0) (.slice none 0 0)) ⟨_, _, rfl, rfl, rfl⟩ (by as_aux_lemma => kernel_rfl) rfl (by simp [evCells, Value.oneCell']) ?_; intro w8 hbE hgE; have HBE := lh hbE; replace HH := lh (HH.out.g hgE); replace HA := lh (HA.out.kept0 hgE); replace HL := lh (HL.out.kept hgE (.inr (by simp [Value.ownBlock]))); replace HS1 := lh (HS1.out.kept hgE (.inr (by simp [Value.ownBlock]))); replace HG := lh (g2 HG.out hgE); clear hbE hgE))
 have hx : ({ I with ch := .slice none 0 0 } : Ids).ex = BOwn J := HEX.out
 refine (bfeed_add HH.out wfA HA.out hx (by show 1 ≤ 2000; omega) add1 (kq := 0) rfl (by omega) rfl).mono ?_
 rintro e w9 ⟨ch, lok, rfl, hst, ha, hc⟩
 have hown : ∀ b, N1 ≤ b → ¬ (Mut I b ∨ BOwn J b) := fun b hb h => by
  rcases h with h | h
  ·have := HMX.out b h; omega
  ·have := HOX.out b h; omega
 have hgg := (((Chg.of (S := fun i => Mut I i ∨ BOwn J i) HG.out)).trans hc).non (fun i hi => by rcases hi with h | h; exact HM1.out i h; exact HM2.out i h)
 have hl9 := ownsRow_chg HL.out hc (fun k hk => hown k (HL.out.lt k hk).1)
 have hs9 := ownsRow_chg HS1.out hc (fun k hk => hown k (HS1.out.lt k hk).1)
 clear HH HA HG HL HS1 HBE HEV hx hown hc
 have HH := lh hst
 have HA := lh ha
 have HG := lh hgg
 have HL := lh hl9
 have HS1 := lh hs9
 clear hst ha hgg hl9 hs9
 change Hid (StoreAt w9 _ sgB) at HH
 go_wp2_with fail
 refine (number_nil w9).mono ?_
 rintro e w10 ⟨rfl, hg⟩
 replace HH := lh (HH.out.g hg)
 replace HA := lh (HA.out.kept0 hg)
 replace HL := lh (HL.out.kept hg (.inr (by simp [Value.ownBlock])))
 replace HS1 := lh (HS1.out.kept hg (.inr (by simp [Value.ownBlock])))
 replace HG := lh (g2 HG.out hg)
 clear hg
 go_wp2_with fail
 obtain ⟨y1, y2, y3, y4, y5, y6⟩ := sgB_parts
 have hsu : SortUpTo sgB.n := sortUpTo2.less (by omega)
 have hm2 : MayLead sgB.F sgB.f [1, 2] (srcG sgB) sgB.je sgB.fr (eOf sgB.slot sgB.S) 2 := by rw [y1, y2, y3, y4]; exact may2 _ _
 have HM2 := lh hm2
 have HSU := lh hsu
 clear hm2 hsu
 refine (bhead_calls HH.out wfB HA.out risB (by simp) HSU.out (wt0 sgB (addB bkt0 2 1 0)) (fun W hW r hr => weight0_calls (HH.out.g hW) wfB (HA.out.kept0 hW) rfl rfl wfB.bo hr)).mono ?_
 rintro e w11 ⟨r, rfl, hr, hg⟩
 have hm2 := HM2.out
 obtain ⟨MAY, hMAY⟩ : ∃ MAY, MAY = MayLead sgB.F sgB.f [1, 2] (srcG sgB) sgB.je sgB.fr (eOf sgB.slot sgB.S) := ⟨_, rfl⟩
 rw [← hMAY] at hr hm2
 rw [y1, y2, y5] at hr
 obtain rfl := hr.unique (hdB2 hm2 _)
 replace HH := lh (HH.out.g hg)
 replace HL := lh (HL.out.kept hg (.inr (by simp [Value.ownBlock])))
 replace HS1 := lh (HS1.out.kept hg (.inr (by simp [Value.ownBlock])))
 replace HG := lh (g2 HG.out hg)
 clear hg hr hm2 hMAY y1 y2 y3 y4 y5 y6 HA
 go_wp2_with fail
 refine (canon_calls HH.out wfB parB risB HSU.out (hd := 2) (by unfold inU; omega)).mono ?_
 rintro e w12 ⟨s2, rfl, hs2, hg⟩
 have hpos2 : 0 < (canonF sgB [1, 2] 2).length := by unfold canonF; simp [putF_len, headN]; omega
 obtain ⟨gs2, cs2, rfl, _, _⟩ := hs2.form hpos2
 obtain ⟨L2, hL2⟩ : ∃ L2, L2 = canonF sgB [1, 2] 2 := ⟨_, rfl⟩
 rw [← hL2] at hs2 ⊢
 have hs2' := ownsRow_base hs2 HG.out.size
 replace HL := lh (HL.out.kept hg (.inr (by simp [Value.ownBlock])))
 replace HS1 := lh (HS1.out.kept hg (.inr (by simp [Value.ownBlock])))
 have hN12 : N1 ≤ w12.heap.size := by have := (HL.out.lt gl rfl); omega
 replace HG := lh (g2 HG.out hg)
 have HS2 := lh hs2'
 have HL2 := lh hL2
 clear hs2' hL2
 clear hg hpos2 hs2 HH
 go_wp2_with (at_builtin; refine wpList_append_lies _ rfl _ _ 40 rfl N1 48 i0 (.agg #[.int .i64 0, .slice none 0 0]) 2 32 Tryz.underlying40 HI.out.1 HI.out.2.1 HI.out.2.2.1 HI.out.2.2.2 rfl (by decide) (.slice (some ⟨gl, 0, none⟩) 1 cl) 1 [.int .i64 0, .slice (some ⟨gs1, 0, none⟩) L1.length cs1] rfl (HL.out.alloc _) ⟨w12.heap.size, 0, none⟩ 1 1 [.int .i64 0, .slice (some ⟨gs2, 0, none⟩) L2.length cs2] rfl rfl (World.news_of_block (MapKept.heap_alloc _ _).1) (by simp [Value.oneCell']) (by decide) (by unfold maxLen; omega) (by omega) (by simp; omega) _ rfl ?_; intro gl2 cl2 w13 hl hgl7 hatl hltl; have HL3 := lh hl; have HG13 := lh hgl7; clear hl hgl7 hatl hltl)
 rw [rounds_succ]
 go_wp2
 go_ret2
 have hne1 : gs1 ≠ gl := fun e => by
  obtain ⟨c1, h1⟩ := ownsRow_type HS1.out (k := gs1) rfl
  obtain ⟨c2, h2⟩ := ownsRow_type HL.out (k := gl) rfl
  rw [e, h2] at h1
  cases h1
 have hne2 : gs2 ≠ gl := fun e => by
  obtain ⟨c1, h1⟩ := ownsRow_type HS2.out (k := gs2) rfl
  obtain ⟨c2, h2⟩ := ownsRow_type HL.out (k := gl) rfl
  rw [e, h2] at h1
  cases h1
 have hg13 : World.grownBy _ w13 (some gl) := HG13.out
 have hal := World.grownBy_alloc w12 (Obj.cells #[.int .i64 0, .slice (some ⟨gs2, 0, none⟩) L2.length cs2] 48) none
 have hs1' := (HS1.out.kept hal (.inr (by simp [Value.ownBlock]))).kept hg13 (.inr (by simpa [Value.ownBlock] using hne1))
 have hs2'' := (HS2.out.kept hal (.inr (by simp [Value.ownBlock]))).kept hg13 (.inr (by simpa [Value.ownBlock] using hne2))
 have hgl1 := (HL.out.lt gl rfl).1
 refine ⟨_, _, _, rfl, ownsRow_base HL3.out hwN, ?_, ?_, gnew (g2 HG.out hal) hg13 (by omega)⟩
 ·rw [← HL1.out]; exact ownsRow_base hs1' hwN
 ·rw [← HL2.out]; exact hs2''
end
def u8s (l : List UInt8) : List Value := l.map fun b => .int .u8 (b.toNat : Int)
theorem u8s_of : ∀ (L : List Value), (∀ u ∈ L, ∃ b : UInt8, u = .int .u8 (b.toNat : Int)) → ∃ l, L = u8s l
 | [], _ => ⟨[], rfl⟩
 | u :: L, h => by
  obtain ⟨b, rfl⟩ := h u (by simp)
  obtain ⟨l, rfl⟩ := u8s_of L (fun v hv => h v (by simp [hv]))
  exact ⟨b :: l, rfl⟩
theorem byteF_u8 (x : Int) (i : Nat) : ∃ b : UInt8, byteF x i = .int .u8 (b.toNat : Int) := by
 unfold byteF
 generalize x / 2 ^ (56 - 8 * i) = y
 refine ⟨UInt8.ofNat (y % 256).toNat, ?_⟩
 have h1 : 0 ≤ y % 256 := Int.emod_nonneg _ (by omega)
 have h2 : y % 256 < 256 := Int.emod_lt_of_pos _ (by omega)
 rw [UInt8.toNat_ofNat']
 congr 1
 omega
theorem putF_u8 : ∀ (xs : List Int), ∀ u ∈ putF xs, ∃ b : UInt8, u = .int .u8 (b.toNat : Int)
 | [], u, h => by cases h
 | x :: xs, u, h => by
  rw [putF, List.mem_append] at h
  rcases h with h | h
  ·unfold bytesF at h
   obtain ⟨i, _, rfl⟩ := List.mem_map.1 h
   exact byteF_u8 x i
  ·exact putF_u8 xs u h
theorem canon_u8 (σ : St) (ks : List Int) (hd : Int) : ∃ l, canonF σ ks hd = u8s l := u8s_of _ (fun u h => by
 unfold canonF at h
 simp only [List.mem_append] at h
 rcases h with ((h | h) | h) | h
 ·exact putF_u8 _ u h
 ·obtain ⟨r, _, hr⟩ := List.mem_flatMap.1 h
  exact putF_u8 _ u hr
 ·exact putF_u8 _ u h
 ·obtain ⟨r, _, hr⟩ := List.mem_flatMap.1 h
  exact putF_u8 _ u hr)
def ByAt (w : World) (v : Value) (l : List UInt8) : Prop := ∃ g c, v = .slice (some ⟨g, 0, none⟩) l.length c ∧ ∀ j, j < l.length → w.cell? ⟨g, j, none⟩ = some (.int .u8 ((l.getD j 0).toNat : Int))
theorem ByAt.of {w : World} {B n : Nat} {v : Value} {l : List UInt8} (h : w.ownsRow B 5 1 v n (u8s l)) (hn : 0 < n) : ByAt w v l := by
 obtain ⟨g, c, rfl, _, _⟩ := h.form hn
 have hl : l.length = n := by have := h.1; simpa [u8s] using this
 subst hl
 refine ⟨g, c, rfl, fun j hj => ?_⟩
 have h1 := h.cells (g := g) rfl j (.int .u8 ((l.getD j 0).toNat : Int)) (by simp [u8s, List.getElem?_eq_getElem hj, List.getD_eq_getElem?_getD])
 have e : (⟨g, 0, none⟩ : Addr).add j = ⟨g, j, none⟩ := by unfold Addr.add; split <;> simp_all
 rw [e] at h1
 exact h1
theorem ByAt.conv {w : World} {v : Value} {l : List UInt8} (h : ByAt w v l) : (convert 23 9 v).run Tryz.prog w = .ok (.string ⟨l.toArray⟩) w := by
 obtain ⟨g, c, rfl, h⟩ := h
 refine run_convert_bytes_back w 23 9 5 ⟨g, 0, none⟩ c l Tryz.underlying23 Tryz.underlying5 Tryz.underlying9 (fun j hj => ?_)
 have e : (⟨g, 0, none⟩ : Addr).add j = ⟨g, j, none⟩ := by unfold Addr.add; split <;> simp_all
 rw [e, h j hj]
 simp [List.getD_eq_getElem?_getD, List.getElem?_eq_getElem hj]
def LnAt (w : World) (v : Value) (l1 l2 : List UInt8) : Prop := ∃ g c s1 s2, v = .slice (some ⟨g, 0, none⟩) 2 c ∧ w.cell? ⟨g, 0, none⟩ = some (.int .i64 0) ∧ w.cell? ⟨g, 1, none⟩ = some s1 ∧ w.cell? ⟨g, 2, none⟩ = some (.int .i64 0) ∧ w.cell? ⟨g, 3, none⟩ = some s2 ∧ ByAt w s1 l1 ∧ ByAt w s2 l2
section
variable {w : World} {va vb : Value} {l1 l2 : List UInt8}
set_option maxHeartbeats 4000000 in
theorem same2_calls (ha : LnAt w va l1 l2) (hb : LnAt w vb l1 l2) :
  Calls Tryz.prog 17 #[va, vb] w fun e w' => e = .returned (.bool true) ∧ w.grownBy w' none := by
 obtain ⟨ga, ca, a1, a2, rfl, p0, p1, p2, p3, pa1, pa2⟩ := ha
 obtain ⟨gb, cb, b1, b2, rfl, q0, q1, q2, q3, qb1, qb2⟩ := hb
 have HS : ∀ W : World, W.heap = w.heap → (W.cell? ⟨ga, 0, none⟩ = some (.int .i64 0) ∧ W.cell? ⟨ga, 1, none⟩ = some a1 ∧ W.cell? ⟨ga, 2, none⟩ = some (.int .i64 0) ∧ W.cell? ⟨ga, 3, none⟩ = some a2 ∧ W.cell? ⟨gb, 0, none⟩ = some (.int .i64 0) ∧ W.cell? ⟨gb, 1, none⟩ = some b1 ∧ W.cell? ⟨gb, 2, none⟩ = some (.int .i64 0) ∧ W.cell? ⟨gb, 3, none⟩ = some b2) ∧
   (convert 23 9 a1).run Tryz.prog W = .ok (.string ⟨l1.toArray⟩) W ∧ (convert 23 9 b1).run Tryz.prog W = .ok (.string ⟨l1.toArray⟩) W ∧ (convert 23 9 a2).run Tryz.prog W = .ok (.string ⟨l2.toArray⟩) W ∧ (convert 23 9 b2).run Tryz.prog W = .ok (.string ⟨l2.toArray⟩) W := fun W hW => by
  have hc : ∀ a, W.cell? a = w.cell? a := fun a => by simp [World.cell?, hW]
  have hb : ∀ v l, ByAt w v l → ByAt W v l := fun v l h => by
   obtain ⟨g, c, e, h⟩ := h
   exact ⟨g, c, e, fun j hj => (hc _).trans (h j hj)⟩
  simp only [hc]
  exact ⟨⟨p0, p1, p2, p3, q0, q1, q2, q3⟩, (hb _ _ pa1).conv, (hb _ _ qb1).conv, (hb _ _ pa2).conv, (hb _ _ qb2).conv⟩
 have HSS := lh HS
 clear HS p0 p1 p2 p3 q0 q1 q2 q3 pa1 pa2 qb1 qb2
 go_enter Tryz.func17, Tryz.ntmps17
 go_wp2_with fail
 refine wp_loop_rounds 3 ?_
 rw [rounds_succ]
 go_upto_region 6 with (fail)
 refine wp_region_late (fun (wr : World) => wr.heap = w.heap) [] (by as_aux_lemma => kernel_rfl) ?_
 have hS : (fun wr : World => wr.heap = w.heap) w.drew := rfl
 have hgd := gdrew (gR w none)
 have HG := lh hgd
 clear hgd
 generalize w.drew = w1 at hS HG ⊢
 refine pM 0 ?_
 simp only [zz]
 refine pM 1 ?_
 simp only [zz]
 refine pM 2 ?_
 simp only [zz]
 refine pM 3 ?_
 simp only [zz]
 refine pM 5 ?_
 simp only [zz]
 refine pM 6 ?_
 simp only [zz]
 refine pM 7 ?_
 simp only [zz]
 refine pM 8 ?_
 simp only [zz]
 refine wM 4 ?_ ?_ hS ?_; rotate_left; · intro w hSw; obtain ⟨⟨p0, p1, p2, p3, q0, q1, q2, q3⟩, v1, v2, v3, v4⟩ := HSS.out w hSw; go_simp; try with_reducible rfl
 simp only [zz]
 refine wM 9 ?_ ?_ hS ?_; rotate_left; · intro w hSw; obtain ⟨⟨p0, p1, p2, p3, q0, q1, q2, q3⟩, v1, v2, v3, v4⟩ := HSS.out w hSw; go_simp; try with_reducible rfl
 simp only [zz]
 refine pM 10 ?_
 simp only [zz]
 refine pM 11 ?_
 simp only [zz]
 refine pM 12 ?_
 simp only [zz]
 refine pM 13 ?_
 simp only [zz]
 refine pM 14 ?_
 simp only [zz]
 refine pM 15 ?_
 simp only [zz]
 refine pM 18 ?_
 simp only [zz]
 refine pM 19 ?_
 simp only [zz]
 refine pM 20 ?_
 simp only [zz]
 refine pM 21 ?_
 simp only [zz]
 refine wM 16 ?_ ?_ hS ?_; rotate_left; · intro w hSw; obtain ⟨⟨p0, p1, p2, p3, q0, q1, q2, q3⟩, v1, v2, v3, v4⟩ := HSS.out w hSw; go_simp; try with_reducible rfl
 simp only [zz]
 refine wM 17 ?_ ?_ hS ?_; rotate_left; · intro w hSw; obtain ⟨⟨p0, p1, p2, p3, q0, q1, q2, q3⟩, v1, v2, v3, v4⟩ := HSS.out w hSw; go_simp; try with_reducible rfl
 simp only [zz]
 refine wM 22 ?_ ?_ hS ?_; rotate_left; · intro w hSw; obtain ⟨⟨p0, p1, p2, p3, q0, q1, q2, q3⟩, v1, v2, v3, v4⟩ := HSS.out w hSw; go_simp; try with_reducible rfl
 simp only [zz]
 refine wM 23 ?_ ?_ hS ?_; rotate_left; · intro w hSw; obtain ⟨⟨p0, p1, p2, p3, q0, q1, q2, q3⟩, v1, v2, v3, v4⟩ := HSS.out w hSw; go_simp; try with_reducible rfl
 simp only [zz]
 refine pM 24 ?_
 simp only [zz]
 refine pM 25 ?_
 simp only [zz]
 refine dM ?_ _
 have HW0 := lh hS
 clear hS
 go_wp2_with fail
 rw [rounds_succ]
 go_upto_region 6 with (fail)
 refine wp_region_late (fun (wr : World) => wr.heap = w.heap) [] (by as_aux_lemma => kernel_rfl) ?_
 have hS : (fun wr : World => wr.heap = w.heap) w1.drew := HW0.out
 have hgd := gdrew (gR w1 none)
 replace HG := lh (g2 HG.out hgd)
 clear hgd
 generalize w1.drew = w2 at hS HG ⊢
 refine pM 0 ?_
 simp only [zz]
 refine pM 1 ?_
 simp only [zz]
 refine pM 2 ?_
 simp only [zz]
 refine pM 3 ?_
 simp only [zz]
 refine pM 5 ?_
 simp only [zz]
 refine pM 6 ?_
 simp only [zz]
 refine pM 7 ?_
 simp only [zz]
 refine pM 8 ?_
 simp only [zz]
 refine wM 4 ?_ ?_ hS ?_; rotate_left; · intro w hSw; obtain ⟨⟨p0, p1, p2, p3, q0, q1, q2, q3⟩, v1, v2, v3, v4⟩ := HSS.out w hSw; go_simp; try with_reducible rfl
 simp only [zz]
 refine wM 9 ?_ ?_ hS ?_; rotate_left; · intro w hSw; obtain ⟨⟨p0, p1, p2, p3, q0, q1, q2, q3⟩, v1, v2, v3, v4⟩ := HSS.out w hSw; go_simp; try with_reducible rfl
 simp only [zz]
 refine pM 10 ?_
 simp only [zz]
 refine pM 11 ?_
 simp only [zz]
 refine pM 12 ?_
 simp only [zz]
 refine pM 13 ?_
 simp only [zz]
 refine pM 14 ?_
 simp only [zz]
 refine pM 15 ?_
 simp only [zz]
 refine pM 18 ?_
 simp only [zz]
 refine pM 19 ?_
 simp only [zz]
 refine pM 20 ?_
 simp only [zz]
 refine pM 21 ?_
 simp only [zz]
 refine wM 16 ?_ ?_ hS ?_; rotate_left; · intro w hSw; obtain ⟨⟨p0, p1, p2, p3, q0, q1, q2, q3⟩, v1, v2, v3, v4⟩ := HSS.out w hSw; go_simp; try with_reducible rfl
 simp only [zz]
 refine wM 17 ?_ ?_ hS ?_; rotate_left; · intro w hSw; obtain ⟨⟨p0, p1, p2, p3, q0, q1, q2, q3⟩, v1, v2, v3, v4⟩ := HSS.out w hSw; go_simp; try with_reducible rfl
 simp only [zz]
 refine wM 22 ?_ ?_ hS ?_; rotate_left; · intro w hSw; obtain ⟨⟨p0, p1, p2, p3, q0, q1, q2, q3⟩, v1, v2, v3, v4⟩ := HSS.out w hSw; go_simp; try with_reducible rfl
 simp only [zz]
 refine wM 23 ?_ ?_ hS ?_; rotate_left; · intro w hSw; obtain ⟨⟨p0, p1, p2, p3, q0, q1, q2, q3⟩, v1, v2, v3, v4⟩ := HSS.out w hSw; go_simp; try with_reducible rfl
 simp only [zz]
 refine pM 24 ?_
 simp only [zz]
 refine pM 25 ?_
 simp only [zz]
 refine dM ?_ _
 go_wp2_with fail
 rw [rounds_succ]
 go_wp2
 go_ret
 exact ⟨rfl, HG.out⟩
end
theorem LnAt.of {w : World} {B : Nat} {v s1 s2 : Value} {l1 l2 : List UInt8} {L1 L2 : List Value} (h : w.ownsRow B 48 2 v 2 [.int .i64 0, s1, .int .i64 0, s2]) (h1 : w.ownsRow B 5 1 s1 L1.length L1) (h2 : w.ownsRow B 5 1 s2 L2.length L2) (e1 : L1 = u8s l1) (e2 : L2 = u8s l2) (n1 : 0 < L1.length) (n2 : 0 < L2.length) :
  LnAt w v l1 l2 := by
 obtain ⟨g, c, rfl, _, _⟩ := h.form (by omega)
 refine ⟨g, c, s1, s2, rfl, h.cells (g := g) rfl 0 _ rfl, h.cells (g := g) rfl 1 _ rfl, h.cells (g := g) rfl 2 _ rfl, h.cells (g := g) rfl 3 _ rfl, ?_, ?_⟩
 ·rw [e1] at h1; exact ByAt.of h1 (by rw [← e1]; exact n1)
 ·rw [e2] at h2; exact ByAt.of h2 (by rw [← e2]; exact n2)
theorem canon_long (σ : St) (ks : List Int) (hd : Int) : 64 ≤ (canonF σ ks hd).length := by
 unfold canonF; simp [putF_len, headN]
theorem canon_seven (σ : St) (ks : List Int) : (canonF σ ks 2)[7]? = some (.int .u8 2) := rfl
set_option maxHeartbeats 8000000 in
theorem awake_calls (w : World) : Calls Tryz.prog 6 #[] w fun e w' => e = .returned (.bool true) ∧ w.grownBy w' none := by
 go_enter Tryz.func6, Tryz.ntmps6
 go_upto_region 3 with (fail)
 refine nmC3 ?_
 intro W b0 b1 b2 hz hg
 obtain ⟨q, hq⟩ : ∃ q, q = w.heap.size := ⟨_, rfl⟩
 rw [← hq] at b0 b1 b2 hz ⊢
 change Blk W (q + 1 + 1) evs2 68 at b2
 have hb5 : Ints .u64 W (some ⟨q, 0, none⟩) [5] := Ints.one b0
 have HB5 := lh hb5
 have HQ := lh b1
 have HEV := lh b2
 have HG := lh hg
 clear hb5 b1 b2 hg
 clear b0 hz hq
 obtain ⟨c0, c1, c2⟩ := HQ.out.c3
 go_wp2_with fail
 refine (run_array HB5.out HEV.out).mono ?_
 rintro e w1 ⟨va, s1, s2, rfl, hv, hs1, hs2, hg⟩
 replace HB5 := lh (Ints.kept HB5.out hg)
 replace HQ := lh (HQ.out.g hg)
 replace HEV := lh (HEV.out.g hg)
 replace HG := lh (g2 HG.out hg)
 have HV := lh hv
 have HS1 := lh hs1
 have HS2 := lh hs2
 clear hv hs1 hs2
 clear hg c0 c1 c2
 obtain ⟨c0, c1, c2⟩ := HQ.out.c3
 go_wp2_with fail
 refine (run_bucket HB5.out HEV.out).mono ?_
 rintro e w2 ⟨vb, t1, t2, rfl, hv, ht1, ht2, hg⟩
 replace HV := lh (HV.out.kept hg (Classical.em _))
 replace HS1 := lh (HS1.out.kept hg (Classical.em _))
 replace HS2 := lh (HS2.out.kept hg (Classical.em _))
 replace HG := lh (g2 HG.out hg)
 have HU := lh hv
 have HT1 := lh ht1
 have HT2 := lh ht2
 clear hv ht1 ht2
 clear hg c0 c1 c2 HEV HB5 HQ
 obtain ⟨l1, e1⟩ := canon_u8 sgA [1] 1
 obtain ⟨l2, e2⟩ := canon_u8 sgB [1, 2] 2
 have n1 := canon_long sgA [1] 1
 have n2 := canon_long sgB [1, 2] 2
 have hla := LnAt.of HV.out HS1.out HS2.out e1 e2 (by omega) (by omega)
 have hlb := LnAt.of HU.out HT1.out HT2.out e1 e2 (by omega) (by omega)
 obtain ⟨g, c, rfl, _, _⟩ := HV.out.form (by omega)
 obtain ⟨gs, cs, rfl, _, _⟩ := HS2.out.form (by omega)
 have r2 : w2.cell? ⟨g, 2, none⟩ = some (.int .i64 0) := HV.out.cells (g := g) rfl 2 _ rfl
 have r3 : w2.cell? ⟨g, 3, none⟩ = some (.slice (some ⟨gs, 0, none⟩) (canonF sgB [1, 2] 2).length cs) := HV.out.cells (g := g) rfl 3 _ rfl
 have r7 : w2.cell? ⟨gs, 7, none⟩ = some (.int .u8 2) := HS2.out.cells (g := gs) rfl 7 _ (canon_seven sgB [1, 2])
 obtain ⟨m, hm⟩ : ∃ m, m = (canonF sgB [1, 2] 2).length := ⟨_, rfl⟩
 rw [← hm] at r3 n2
 have hd8 : decide ((m : Int) > 8) = true := decide_eq_true (by omega)
 have hd7 : (7 : Int) < m := by omega
 have hd9 : 7 < m := by omega
 have HLA := lh hla
 have HLB := lh hlb
 clear hla hlb
 clear HV HU HS1 HS2 HT1 HT2 e1 e2 n1 hm
 go_wp2_with (go_at_call 17; refine (same2_calls HLA.out HLB.out).mono ?_; rintro e w3 ⟨rfl, hg⟩; have HG3 := lh (g2 HG.out hg); have r2 := cell_g r2 hg; have r3 := cell_g r3 hg; have r7 := cell_g r7 hg; clear hg)
 go_ret
 exact ⟨rfl, HG3.out⟩
end Go.Proofs.YtndfpmboanohcaaGreatDoor
