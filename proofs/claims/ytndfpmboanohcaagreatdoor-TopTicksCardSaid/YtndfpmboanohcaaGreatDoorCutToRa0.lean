/- Contract of (*tree.Tree).Cut. -/
import Derived.Test.YtndfpmboanohcaaGreatDoorAttToSla
namespace Go.Proofs.YtndfpmboanohcaaGreatDoor
set_option maxRecDepth 100000
open Go.RowKit Go.Maps SkipPure
def goneL (F:Int→Option (Int×Int×Int)) (f fr:Int) (ks:List Int):List Int:=ks.filter fun r=>!belowT F f r fr
def stay0 (F:Int→Option (Int×Int×Int)) (f fr b r:Int):Option (Int×Int×Int):=if belowT F f r fr then (F r).map fun x=>(x.1,x.2.1,x.2.2 - b) else none
def stayJ (F:Int→Option (Int×Int×Int)) (f fr b:Int) (ks:List Int) (j:Nat):Int→Option (Int×Int×Int):=fun r=>if r∈ks.take j then stay0 F f fr b r else none
section
variable {F:Int→Option (Int×Int×Int)} {f fr b:Int} {ks:List Int} {j:Nat}
theorem take_succ2 (h:j < ks.length):ks.take (j+1)=ks.take j++[ks.getD j 0]:=by
 rw [List.take_add_one,List.getD_eq_getElem?_getD];simp [h]
theorem stayJ_in (h:j < ks.length) {y:Int×Int×Int} (hb:belowT F f (ks.getD j 0) fr=true) (hy:F (ks.getD j 0)=some y):stayJ F f fr b ks (j+1)=tset (stayJ F f fr b ks j) (ks.getD j 0) (y.1,y.2.1,y.2.2 - b):=by
 funext r;unfold stayJ tset;rw [take_succ2 h];by_cases e:r=ks.getD j 0
 ·rw [if_pos e,e,if_pos (by simp)];unfold stay0;rw [if_pos hb,hy];rfl
 ·rw [if_neg e];by_cases h2:r∈ks.take j
  ·rw [if_pos (List.mem_append_left _ h2)];show _=if r∈ks.take j then _ else _;rw [if_pos h2]
  ·rw [if_neg (by simp only [List.mem_append,List.mem_singleton];exact fun h=>h.elim h2 e)];show _=if r∈ks.take j then _ else _;rw [if_neg h2]
theorem stayJ_out (h:j < ks.length) (hb:belowT F f (ks.getD j 0) fr=false):stayJ F f fr b ks (j+1)=stayJ F f fr b ks j:=by
 funext r;unfold stayJ;rw [take_succ2 h];by_cases e:r=ks.getD j 0
 ·have h0:stay0 F f fr b (ks.getD j 0)=none:=by unfold stay0;rw [hb];rfl
  rw [e,h0];split <;> split <;> rfl
 ·by_cases h2:r∈ks.take j
  ·rw [if_pos h2,if_pos (by simp [h2])]
  ·rw [if_neg h2,if_neg (by simp only [List.mem_append,List.mem_singleton];exact fun h=>h.elim h2 e)]
theorem stayJ_fresh (hnd:ks.Nodup) (h:j < ks.length):stayJ F f fr b ks j (ks.getD j 0)=none:=by
 unfold stayJ;rw [if_neg];intro hm;have h1:(ks.take (j+1)).Nodup:=hnd.sublist (List.take_sublist _ _);rw [take_succ2 h,List.nodup_append] at h1;exact h1.2.2 _ hm _ (by simp) rfl
theorem goneL_take (h:j < ks.length):goneL F f fr (ks.take (j+1))=goneL F f fr (ks.take j)++(if belowT F f (ks.getD j 0) fr then [] else [ks.getD j 0]):=by
 unfold goneL;rw [take_succ2 h,List.filter_append];generalize ks.getD j 0=r;cases hb:belowT F f r fr <;> simp [hb]
theorem stay_end (hk : ∀ r x,F r=some x→inU r) (hR:Rising F ks) {x:Int×Int×Int} (hx:F fr=some x):tset (stayJ F f fr x.2.2 ks ks.length) fr (fr,x.2.1,x.2.2 - x.2.2)=cutT F f fr:=by
 have hg:getT F fr=x:=by unfold getT;rw [hx];rfl
 funext r;unfold tset stayJ stay0 cutT;rw [hg,List.take_length];by_cases e:r=fr
 ·rw [if_pos e,e,if_pos (below_self hx),hx];unfold cutN;simp
 ·rw [if_neg e];by_cases hb:belowT F f r fr=true
  ·obtain ⟨_,y,_,hy,_⟩:=below_some hb;have hm:=(hR.2.2 r (hk r y hy)).2 (by rw [hy];rfl);rw [if_pos hm,if_pos hb,if_pos hb,hy];unfold cutN;simp [e]
  ·simp [hb]
end
theorem fieldH (x y z:Int) (w:World):(Instr.field 168 (.agg #[.int .u64 x,.int .i64 y,.int .i64 z]) 2).run Tryz.prog w=.ok (.int .i64 z) w:=by kernel_rfl
set_option maxHeartbeats 4000000 in
theorem tcut_calls {w:World} {p b n:Nat} {f fr:Int} {F:Int→Option (Int×Int×Int)} (h:TreeAt w p b n f F) (W:WellT f F) (hn:n≤1000000) (hS:SortUpTo n) {x:Int×Int×Int} (hfr:F fr=some x) :
  Calls Tryz.prog 71 #[.pointer (some ⟨p,0,none⟩),.int .u64 fr] w fun e w'=>∃ v ks b2 m,e=.returned v∧Rising F ks∧w'.ownsRow w.heap.size 27 1 v (goneL F f fr ks).length ((goneL F f fr ks).map encU) ∧
   TreeAt w' p b2 m fr (cutT F f fr)∧w.heap.size≤b2∧m+(goneL F f fr ks).length=ks.length∧ks.length≤n∧w.grownBy w' (some p):=by
 have hmm:=@run_makeMap Tryz.prog;have HH:=lh h;have hpl:p < w.heap.size:=(Array.getElem?_eq_some_iff.1 h.2.1).1;have hrU:=W.key _ _ hfr;have hxh:=W.hgt _ _ hfr;have hxs:=W.slot _ _ hfr;have hlk:=h.2.2.look Tryz.underlying27 Tryz.underlying169 (zero62 w) hrU;rw [show (tfun F fr).getD (Value.agg #[.int .u64 0,.int .i64 0,.int .i64 0])=tnode x from by unfold tfun;rw [hfr];rfl] at hlk;have c1:=h.c1;have hbl:b < w.heap.size:=h.2.2.lt;clear h;obtain ⟨x0,x1,x2⟩:=x;simp only [tnode] at hlk hxh hxs;have hfl:=fieldH x0 x1 x2;have HFR:=lh hfr;have HHS:=lh hS;have HWW:=lh W;clear hfr hS W;obtain ⟨i0,hi0⟩:=elem_u64;have HI:=lh hi0;clear hi0;go_enter Tryz.func71,Tryz.ntmps71
 go_wp2_with fail
 refine (thas_calls HH.out hrU).mono ?_;rintro e w1 ⟨rfl,hg1⟩;rw [show (F fr).isSome=true from by rw [HFR.out];rfl];replace HH:=lh (HH.out.kept hg1 (by simp));have HG:=lh hg1;clear c1 hlk;have c1:=HH.out.c1;have hlk:=HH.out.2.2.look Tryz.underlying27 Tryz.underlying169 (zero62 w1) hrU;rw [show (tfun F fr).getD (Value.agg #[.int .u64 0,.int .i64 0,.int .i64 0])=.agg #[.int .u64 x0,.int .i64 x1,.int .i64 x2] from by unfold tfun;rw [HFR.out];rfl] at hlk;clear hg1;go_wp2_with fail
 have hsm:=RawMap.made Tryz.prog 27 w1;have hg2:=World.grownBy_alloc w1 (Obj.map #[] 0) none;have hsz:(w1.alloc (Obj.map #[] 0)).heap.size=w1.heap.size+1:=by simp
 obtain ⟨sb,hsb⟩ : ∃ sb,sb=w1.heap.size:=⟨_,rfl⟩;have hpb:p < sb:=by rw [hsb];exact Nat.lt_of_lt_of_le hpl HG.out.size
 have hwb:w.heap.size≤sb:=by rw [hsb];exact HG.out.size
 rw [← hsb] at hsm hsz ⊢;replace HH:=lh (HH.out.kept hg2 (by simp));replace HG:=lh (g2 HG.out hg2);generalize w1.alloc (Obj.map #[] 0)=w2 at hsm hsz HH HG ⊢;have HSM:=lh hsm;clear hsm hg2 hsb c1 hlk hmm;refine (roots_calls HH.out HWW.out hn HHS.out).mono ?_;rintro e w3 ⟨v,ks,rfl,hR,hl,hrow,hg3⟩;have hpos:0 < ks.length:=by
  exact List.length_pos_of_mem ((hR.2.2 fr hrU).2 (by rw [HFR.out];rfl))
 obtain ⟨g,cap,rfl,hgb⟩:=hrow.form hpos;have hnd:ks.Nodup:=hR.1.imp (fun h=>by omega);have hgsb:sb < g:=by omega
 have h3:=hg3.size;replace HSM:=lh (HSM.out.kept hg3 (by simp));replace HG:=lh (g2 HG.out hg3);replace HH:=lh (HH.out.kept hg3 (by simp));have HR:=lh hR;have HROW:=lh hrow;have HND:=lh hnd;clear hR hrow hnd;clear hg3 hpos;go_wp2_with fail
 go_loopw [27,6] (fun v27 v6 wr=>∃ (j m:Nat),v27=.int .i64 (j:Int)∧j≤ks.length∧wr.ownsRow w3.heap.size 27 1 v6 (goneL F f fr (ks.take j)).length ((goneL F f fr (ks.take j)).map encU) ∧
   RawMap Tryz.prog 27 wr sb m (tfun (stayJ F f fr x2 ks j))∧m+(goneL F f fr (ks.take j)).length=j∧w3.grownBy wr (some sb)) (fun v27 _ _=>ks.length - (intOf v27).toNat)
 case atStart=>
  refine ⟨0,0,rfl,by omega,World.ownsRow_nil _ _ _ _,?_,rfl,gR _ _⟩;have e:tfun (stayJ F f fr x2 ks 0)=fun _=>none:=by funext r;simp [tfun,stayJ]
  rw [e];exact HSM.out
 case round=>
  obtain ⟨j,m,rfl,hj,ho,hsm,hm,hgr⟩:=hrel;have HO:=lh ho;have HSJ:=lh hsm;have HGR:=lh hgr;clear ho hsm hgr;by_cases hlt:j < ks.length
  ·have hc:=rowCell (HROW.out.kept HGR.out (.inr (by simp [Value.ownBlock];omega))) j hlt;have hin:=HR.out.2.1 (ks.getD j 0) (by rw [List.getD_eq_getElem?_getD,List.getElem?_eq_getElem hlt];simp);have h0:=stayJ_fresh (F:=F) (f:=f) (fr:=fr) (b:=x2) HND.out hlt;have hgt:=goneL_take (F:=F) (f:=f) (fr:=fr) hlt;have hso:=fun hb=>stayJ_out (F:=F) (f:=f) (fr:=fr) (b:=x2) hlt hb;have hsi:=fun y hb hy=>stayJ_in (F:=F) (f:=f) (fr:=fr) (b:=x2) hlt (y:=y) hb hy;have hsome:=(HR.out.2.2 _ hin).1 (by rw [List.getD_eq_getElem?_getD,List.getElem?_eq_getElem hlt];simp);obtain ⟨r,hr⟩ : ∃ r,r=ks.getD j 0:=⟨_,rfl⟩;rw [← hr] at hc h0 hgt hso hsi hsome hin;clear hr;obtain ⟨⟨y0,y1,y2⟩,hy⟩:=Option.isSome_iff_exists.1 hsome;have hyh:=HWW.out.hgt _ _ hy;have hT:=HH.out.kept HGR.out ⟨by simp;omega,by simp;omega⟩;have c1:=hT.c1;have hlk:=hT.2.2.look Tryz.underlying27 Tryz.underlying169 (zero62 wr) hin;rw [show (tfun F r).getD (Value.agg #[.int .u64 0,.int .i64 0,.int .i64 0])=.agg #[.int .u64 y0,.int .i64 y1,.int .i64 y2] from by unfold tfun;rw [hy];rfl] at hlk;simp only at hyh;have H0:=lh h0;have HGT:=lh hgt;have HSO:=lh hso;have HSI:=lh hsi;have HY:=lh hy;have HT:=lh hT;clear h0 hgt hso hsi hy hT;clear hsome;go_wp2_with fail
   have hx:=Box3.alloc wr (.int .u64 y0) (.int .i64 y1) (.int .i64 y2) 168;have hgb2:=World.grownBy_alloc wr (Obj.cells #[.int .u64 y0,.int .i64 y1,.int .i64 y2] 168) none;obtain ⟨q,hq⟩ : ∃ q,q=wr.heap.size:=⟨_,rfl⟩;have hqs:sb < q:=by rw [hq];have:=HGR.out.size;omega
   have hq3:w3.heap.size≤q:=by rw [hq];exact HGR.out.size
   have hoq : ∀ k,k=q→u6.ownBlock≠some k:=fun k e1 e=>by have:=(HO.out.lt _ e).2;omega
   rw [← hq] at hx ⊢;clear hq hlk c1 hc;generalize wr.alloc (Obj.cells #[.int .u64 y0,.int .i64 y1,.int .i64 y2] 168)=wb at hx hgb2 ⊢;replace HSJ:=lh (HSJ.out.kept hgb2 (by simp));replace HT:=lh (HT.out.kept hgb2 (by simp));replace HO:=lh (ownsRow_g HO.out hgb2);replace HGR:=lh (HGR.out.andThen hgb2 (fun j e=>by cases e));have HX:=lh hx;have HOQ:=lh (hoq q rfl);clear hx hgb2 hoq;refine (tbelow_calls HT.out HWW.out hin hrU).mono ?_;rintro e w5 ⟨rfl,hg5⟩;replace HSJ:=lh (HSJ.out.kept hg5 (by simp));replace HO:=lh (ownsRow_g HO.out hg5);replace HGR:=lh (HGR.out.andThen hg5 (fun j e=>by cases e));replace HX:=lh (HX.out.kept hg5);clear hg5 HT;obtain ⟨Bq,hBq⟩ : ∃ Bq,Bq=belowT F f r fr:=⟨_,rfl⟩;rw [← hBq] at HGT HSO HSI ⊢;clear hBq;cases Bq
   ·have hgt:goneL F f fr (ks.take (j+1))=goneL F f fr (ks.take j)++[r]:=HGT.out;have hlen:(goneL F f fr (ks.take (j+1))).length=(goneL F f fr (ks.take j)).length+1:=by rw [hgt];simp
    have HGTT:=lh hgt;have HLEN:=lh hlen;clear hgt hlen;obtain ⟨M,hM⟩ : ∃ M,M=goneL F f fr (ks.take j):=⟨_,rfl⟩;rw [← hM] at HO HGTT HLEN hm;clear hM;go_wp2_with (at_builtin;refine wpList_push rfl _ _ 34 rfl w3.heap.size 27 i0 (.int .u64 0) 1 8 Tryz.underlying34 HI.out rfl (by decide) _ M.length (M.map encU) rfl HO.out rfl rfl (by simp [Value.oneCell']) (by unfold maxLen;omega) (by omega) HGR.out.size ?_;intro v6 w6 h6 hg6;have H6:=lh h6;have HG6:=lh hg6;clear h6 hg6)
    refine ⟨⟨j+1,m,by simp,by omega,by rw [HLEN.out,HGTT.out];simpa using H6.out,?_,by rw [HLEN.out];omega,?_⟩,by simp [intOf];omega⟩
    ·rw [HSO.out trivial];exact HSJ.out.kept HG6.out (fun e=>by have:=(HO.out.lt _ e.symm).1;omega)
    ·exact HGR.out.andThen HG6.out (fun k e=>Or.inl (HO.out.lt k e).1)
   ·have hgt:goneL F f fr (ks.take (j+1))=goneL F f fr (ks.take j):=by rw [HGT.out];simp
    have hsi:stayJ F f fr x2 ks (j+1)=tset (stayJ F f fr x2 ks j) r (y0,y1,y2 - x2):=HSI.out _ rfl HY.out;have d0:=HX.out.c0;have d1:=HX.out.c1;have d2:=HX.out.c2;have f2:w5.frozen? ⟨q,2,none⟩=false:=frz HX.out 2;have hsub : -9223372036854775808≤y2 - x2∧y2 - x2≤9223372036854775807:=by omega
    have HGTT:=lh hgt;have HSII:=lh hsi;clear hgt hsi;go_wp2_with (refine wpList_store_any (HSJ.out.kept (gset _ q 2 _) (by simp;omega)) rfl _ _ _ 169 (Or.inl rfl) Tryz.underlying27 Tryz.underlying169 (by unfold maxLen;omega) hin (tnode (y0,y1,y2 - x2)) rfl rfl rfl ?_;intro w6 h6 hg6;have H6:=lh h6;have HG6:=lh hg6;clear h6 hg6)
    have h6:=H6.out;rw [show (tfun (stayJ F f fr x2 ks j) r)=none from by unfold tfun;rw [H0.out];rfl,tfun_set,← HSII.out] at h6;have g6:w3.grownBy (w5.setCell ⟨q,2,none⟩ (.int .i64 (y2 - x2))) (some sb):=HGR.out.andThen (gset w5 q 2 (.int .i64 (y2 - x2))) (fun k e=>Or.inl (by cases e;exact hq3));refine ⟨⟨j+1,m+1,by simp,by omega,?_,h6,by rw [HGTT.out];omega,g6.andThen HG6.out (fun k e=>Or.inr e)⟩,by simp [intOf];omega⟩;rw [HGTT.out];exact (HO.out.kept (gset w5 q 2 _) (.inr (fun e=>HOQ.out e))).kept HG6.out (.inr (fun e=>by have:=(HO.out.lt _ e).1;omega))
  ·have hje:j=ks.length:=by omega
   subst hje;rw [List.take_length] at HO hm;have hT:=HH.out.kept HGR.out ⟨by simp;omega,by simp;omega⟩;have hmem:=(HR.out.2.2 fr hrU).2 (by rw [HFR.out];rfl);have hlk:=HSJ.out.look Tryz.underlying27 Tryz.underlying169 (zero62 wr) hrU;rw [show (tfun (stayJ F f fr x2 ks ks.length) fr)=some (tnode (x0,x1,x2 - x2)) from by unfold tfun stayJ;rw [List.take_length,if_pos hmem];unfold stay0;rw [if_pos (below_self HFR.out),HFR.out];rfl] at hlk;simp only [Option.getD_some,tnode] at hlk;have hpw:p≠wr.heap.size:=by have:=HGR.out.size;omega
   have HT:=lh hT;have hsw:=HSJ.out.lt;clear hT;go_upto_region 17 with (fail)
   have hx:=Box3.alloc wr (.int .u64 fr) (.int .i64 x1) (.int .i64 0) 168;have hgb2:=World.grownBy_alloc wr (Obj.cells #[.int .u64 fr,.int .i64 x1,.int .i64 0] 168) none;have hbx:w3.heap.size≤wr.heap.size:=HGR.out.size;obtain ⟨q,hq⟩ : ∃ q,q=wr.heap.size:=⟨_,rfl⟩;rw [← hq] at hx hbx hpw hsw ⊢;clear hlk hq;generalize wr.alloc (Obj.cells #[.int .u64 fr,.int .i64 x1,.int .i64 0] 168)=wb at hx hgb2 ⊢;replace HSJ:=lh (HSJ.out.kept hgb2 (by simp));replace HT:=lh (HT.out.kept hgb2 (by simp));replace HO:=lh (ownsRow_g HO.out hgb2);replace HGR:=lh (HGR.out.andThen hgb2 (fun j e=>by cases e));have d0:=hx.c0;have d1:=hx.c1;have d2:=hx.c2;clear hgb2;go_wp2_with (refine wpList_store_any HSJ.out rfl _ _ _ 169 (Or.inl rfl) Tryz.underlying27 Tryz.underlying169 (by unfold maxLen;omega) hrU (tnode (fr,x1,0)) rfl rfl rfl ?_;intro w6 h6 hg6;have hT6:=HT.out.kept hg6 ⟨by simp;omega,by simp;omega⟩;have f0:w6.frozen? ⟨p,0,none⟩=false:=frz hT6.2.1 0;have f1:w6.frozen? ⟨p,1,none⟩=false:=frz hT6.2.1 1;have c0:=hT6.c0;have c1:=hT6.c1;have HT6:=lh hT6;have H6:=lh h6;have HG6:=lh (HGR.out.andThen hg6 (fun _ e=>Or.inr e));have HO6:=lh (ownsRow_old HO.out hg6 (by omega));clear h6 hg6 hT6)
   go_ret;have hb6:Blk w6 p #[.int .u64 f,.map (some b)] 171:=HT6.out.2.1;have t1:=(hb6.set 0 (.int .u64 fr)).set 1 (.map (some sb));simp only [List.setIfInBounds_toArray,List.set_cons_zero,List.set_cons_succ] at t1;have t3:w6.grownBy ((w6.setCell ⟨p,0,none⟩ (.int .u64 fr)).setCell ⟨p,1,none⟩ (.map (some sb))) (some p):=gtrans (gset _ _ _ _) (gset _ _ _ _);have h6:=H6.out;rw [show (tfun (stayJ F f fr x2 ks ks.length) fr).isSome=true from by unfold tfun stayJ;rw [List.take_length,if_pos hmem];unfold stay0;rw [if_pos (below_self HFR.out),HFR.out];rfl,tfun_set,if_pos rfl] at h6;have e:=stay_end (f:=f) HWW.out.key HR.out HFR.out;simp only [Int.sub_self] at e;rw [e] at h6;refine ⟨u6,ks,sb,m,rfl,HR.out,own_base (HO6.out.kept t3 (.inr (fun e=>by have:=(HO6.out.lt _ e).1;omega))) HG.out.size,⟨by omega,t1,h6.kept t3 (by simp;omega)⟩,hwb,hm,hl,?_⟩;exact ((World.grownBy.andThen (row:=some p) (gweak HG.out) HG6.out (fun k e=>Or.inl (by cases e;exact hwb))).andThen t3 (fun _ e=>Or.inr e))
def lessL (L:Int→Option Led) (gl:List Int):Int→Option Led:=fun r=>if r∈gl then none else L r
def moreG (g:Int→Prop) (gl:List Int):Int→Prop:=fun r=>g r∨r∈gl
def raiseJ (σ:St) (je jr:Int):St:=if decide (σ.je < je) && belowT σ.F σ.f jr σ.fr then { σ with je:=je,jr:=jr } else σ
def raiseC (σ:St) (fe fr:Int):Bool:=!(decide (fe≤σ.fe) || !belowT σ.F σ.f fr σ.fr || !belowT σ.F σ.f σ.jr fr)
def cutS (σ:St) (ks:List Int) (fe fr:Int):St:=
 { σ with fe:=fe,fr:=fr,f:=fr,F:=cutT σ.F σ.f fr,n:=ks.length - (goneL σ.F σ.f fr ks).length,L:=lessL σ.L (goneL σ.F σ.f fr ks),gone:=moreG σ.gone (goneL σ.F σ.f fr ks),boosted:=if (cutT σ.F σ.f fr σ.boosted).isSome then σ.boosted else 0 }
def Raised (σ:St) (cs:List Cg) (je jr fe fr:Int) (σ':St) (cs':List Cg):Prop:=
 if raiseC (raiseJ σ je jr) fe fr then ∃ ks,Rising σ.F ks∧σ'=cutS (raiseJ σ je jr) ks fe fr∧cs'=cs++[⟨3,fr,0,0,0,false⟩] else σ'=raiseJ σ je jr∧cs'=cs
def lessL1 (L:Int→Option Led) (k:Int):Int→Option Led:=fun r=>if r=k then none else L r
theorem lessL_next {L:Int→Option Led} {gl:List Int} {j:Nat} (h:j < gl.length):lessL L (gl.take (j+1))=lessL1 (lessL L (gl.take j)) (gl.getD j 0):=by
 funext r;unfold lessL1 lessL;rw [take_succ2 h];by_cases e:r=gl.getD j 0
 ·rw [if_pos e,e,if_pos (by simp)]
 ·rw [if_neg e];by_cases h2:r∈gl.take j
  ·rw [if_pos h2,if_pos (List.mem_append_left _ h2)]
  ·rw [if_neg h2,if_neg (by simp only [List.mem_append,List.mem_singleton];exact fun h=>h.elim h2 e)]
theorem moreG_next {g:Int→Prop} {gl:List Int} {j:Nat} (h:j < gl.length):moreG g (gl.take (j+1))=fun r=>moreG g (gl.take j) r∨r=gl.getD j 0:=by
 funext r;unfold moreG;rw [take_succ2 h];simp only [List.mem_append,List.mem_singleton,or_assoc]
section
variable {w w':World} {I:Ids} {σ:St} {base:Nat} {cs:List Cg}
theorem wpList_unled {ops:Array Oper} {rest:List Oper} {o:Oper} {a:Act} {Q:Exit→Act→World→Prop} {ok:Nat→Prop} {b N:Nat} {L:Int→Option Led} (h:LMap w ok b N L) (hok:¬ ok b) (hg:o.guard=none) (m x:Operand)
  (hop:o.op=Op.call { callee:=Callee.builtin Builtin.delete,args:=#[m,x],argTypes:=#[74,27] }) {k:Int} (hin:inU k) (hm:a.eval m=.map (some b)) (hx:a.eval x=.int .u64 k)
  (hK : ∀ w',LMap w' ok b N (lessL1 L k)→w.grownBy w' (some b)→wpList Tryz.prog ops Q rest (a.put o.dst (.tuple #[])) w'):wpList Tryz.prog ops Q (o :: rest) a w:=by
 obtain ⟨n,js,G,h1,h2,h3,h4,h5⟩:=h;refine wpList_drop_any h1 hg m x 74 hop Tryz.underlying27 Tryz.underlying74 hin hm hx ?_;intro w' hr hgr;refine hK w' ?_ hgr;have hc:Chg (fun i=>i=b) w w':=Chg.one hgr rfl;have ho : ∀ i,ok i→¬ i=b:=fun i hi e=>hok (e ▸ hi);have hrest : ∀ r,(lessL1 L k r=none→updel G k r=none)∧∀ x,lessL1 L k r=some x→∃ v,updel G k r=some v∧LedAt w' ok N x v:=by
  intro r;unfold lessL1 updel;by_cases hrk:r=k
  ·rw [if_pos hrk,if_pos hrk];exact ⟨fun _=>rfl,fun x e=>by cases e⟩
  ·rw [if_neg hrk,if_neg hrk];refine ⟨(h5 r).1,fun x hx=>?_⟩;obtain ⟨v,hv,hl⟩:=(h5 r).2 x hx;exact ⟨v,hv,hl.chg hc ho⟩
 have hsome : ∀ j∈js,j≠k→(lessL1 L k j).isSome=true:=fun j hj hne=>by
  unfold lessL1;rw [if_neg hne];exact h4 j hj
 cases hGk:G k with
 | none=>
  rw [hGk] at hr;have hLk:L k=none:=by
   cases hL:L k with
   | none=>rfl
   | some x=>
    obtain ⟨v,hv,_⟩:=(h5 k).2 x hL;rw [hGk] at hv;cases hv
  exact ⟨n,js,_,hr,h2,h3,fun j hj=>hsome j hj (fun e=>by have:=h4 j hj;rw [e,hLk] at this;cases this),hrest⟩
 | some y=>
  rw [hGk] at hr;by_cases hkj:k∈js
  ·refine ⟨n - 1,js.erase k,_,hr,h2.erase k,by rw [List.length_erase_of_mem hkj,h3],fun j hj=>?_,hrest⟩;have hne:j≠k:=fun e=>by
    subst e;exact (List.Nodup.not_mem_erase h2) hj
   exact hsome j (List.mem_of_mem_erase hj) hne
  ·refine ⟨n - 1,js.tail,_,hr,h2.sublist (List.tail_sublist js),by rw [List.length_tail,h3],fun j hj=>?_,hrest⟩;exact hsome j (List.mem_of_mem_tail hj) (fun e=>hkj (e ▸ List.mem_of_mem_tail hj))
theorem SC.mutd (h:SC w I σ base cs) {σ':St} {b:Nat} (hs:StoreAt w' I.wi σ') (hg:w.grownBy w' (some b)) (hb:Mut I b):SC w' I σ' base cs∧Stp I I w w':=
 ⟨⟨hs,h.row.kept hg (.inr (h.chm hb)),h.lo,Nat.le_trans h.bl hg.size⟩,⟨Chg.one hg (.inl hb),rfl,fun _ h=>.inl h,.inl rfl⟩⟩
theorem SC.blk (h:SC w I σ base cs):Blk w I.p #[.slice I.ba σ.bs.length I.bc,.int .i64 σ.S,.int .i64 σ.B,.pointer (some ⟨I.tp,0,none⟩),.slice (some ⟨I.vb,0,none⟩) σ.bs.length σ.bs.length,.int .i64 σ.slot,.int .u64 σ.boosted,
  .int .i64 σ.je,.int .u64 σ.jr,.int .i64 σ.fe,.int .u64 σ.fr,.map (some I.lm),.map (some I.gm),I.ch] 78:=h.st.blk
theorem SC.led (h:SC w I σ base cs):LMap w (fun i=>¬ Far I.wi i) I.lm σ.bs.length σ.L:=h.st.led
theorem SC.gone (h:SC w I σ base cs):BSet w I.gm σ.gone:=h.st.gone
theorem SC.ledgered (h:SC w I σ base cs) {L:Int→Option Led} (hl:LMap w' (fun i=>¬ Far I.wi i) I.lm σ.bs.length L) (hg:w.grownBy w' (some I.lm)):SC w' I { σ with L:=L } base cs∧Stp I I w w':=
 h.mutd (h.st.ledgered hl hg) hg (.inr (.inr (.inr (.inr (.inl rfl)))))
theorem StoreAt.goned (h:StoreAt w I σ) {g:Int→Prop} (hl:BSet w' I.gm g) (hg:w.grownBy w' (some I.gm)):StoreAt w' I { σ with gone:=g }:=by
 obtain ⟨h1,h2,h3,h4,h5,h6,h7,h8,h9,h10⟩:=h;have hc:Chg (fun i=>i=I.gm) w w':=Chg.one hg rfl;obtain ⟨a1,a2,a3,a4,a5,b1,b2,b3,b4,c1,c2,c3,d1,d2,e1⟩:=nodup6 h7;exact ⟨hc.blk h1 a5,h2.chg hc (fun ad ha e=>h8 ad ha (.inl (.inr (.inr (.inr (.inr (.inr e))))))),hc.tree h3 b4 c3,hc.votes h4 d2,h5.chg hc e1 (fun i hi e=>hi (.inl (.inr (.inr (.inr (.inr (.inr e))))))),hl,h7,h8,fun i hi=>Nat.lt_of_lt_of_le (h9 i hi) hg.size,h10⟩
theorem SC.goned (h:SC w I σ base cs) {g:Int→Prop} (hl:BSet w' I.gm g) (hg:w.grownBy w' (some I.gm)):SC w' I { σ with gone:=g } base cs∧Stp I I w w':=
 h.mutd (h.st.goned hl hg) hg (.inr (.inr (.inr (.inr (.inr rfl)))))
theorem SC.treed (h:SC w I σ base cs) {n:Nat} {f:Int} {F:Int→Option (Int×Int×Int)} (ht:TreeAt w' I.tp I.tb n f F) (hg:w.grownBy w' (some I.tb)):SC w' I { σ with n:=n,f:=f,F:=F } base cs∧Stp I I w w':=
 h.mutd (h.st.treed ht hg) hg (.inr (.inr (.inl rfl)))
theorem SC.put (h:SC w I σ base cs) {σ':St} (hg:w.grownBy w' (some I.p))
  (hb:Blk w' I.p #[.slice I.ba σ.bs.length I.bc,.int .i64 σ.S,.int .i64 σ.B,.pointer (some ⟨I.tp,0,none⟩),.slice (some ⟨I.vb,0,none⟩) σ.bs.length σ.bs.length,.int .i64 σ'.slot,.int .u64 σ'.boosted,
    .int .i64 σ'.je,.int .u64 σ'.jr,.int .i64 σ'.fe,.int .u64 σ'.fr,.map (some I.lm),.map (some I.gm),I.ch] 78)
  (hs:σ'={ σ with slot:=σ'.slot,boosted:=σ'.boosted,je:=σ'.je,jr:=σ'.jr,fe:=σ'.fe,fr:=σ'.fr }):SC w' I σ' base cs∧Stp I I w w':=
 h.mutd (h.st.put (I':=I.wi) hg hb rfl hs) hg (.inl rfl)
theorem StoreAt.cutted (h:StoreAt w I σ) (hN:0 < σ.bs.length) {b2 m:Nat} {f:Int} {F:Int→Option (Int×Int×Int)} (ht:TreeAt w' I.tp b2 m f F) (hg:w.grownBy w' (some I.tp)) (hb:w.heap.size≤b2):StoreAt w' { I with tb:=b2 } { σ with n:=m,f:=f,F:=F }:=by
 have hlt : ∀ {i},Mut I i→i < w.heap.size:=fun hi=>h.lt hi;have m1:=hlt (.inl rfl:Mut I I.p);have m2:=hlt (.inr (.inl rfl):Mut I I.tp);have m4:=hlt (.inr (.inr (.inr (.inl rfl))):Mut I I.vb);have m5:=hlt (.inr (.inr (.inr (.inr (.inl rfl)))):Mut I I.lm);have m6:=hlt (.inr (.inr (.inr (.inr (.inr rfl)))):Mut I I.gm);have hmm : ∀ i,i < w.heap.size→Mut { I with tb:=b2 } i→Mut I i:=fun i hi hm=>by
  rcases hm with hm | hm | hm | hm | hm | hm
  ·exact .inl hm
  ·exact .inr (.inl hm)
  ·have : i=b2:=hm;omega
  ·exact .inr (.inr (.inr (.inl hm)))
  ·exact .inr (.inr (.inr (.inr (.inl hm))))
  ·exact .inr (.inr (.inr (.inr (.inr hm))))
 obtain ⟨h1,h2,h3,h4,h5,h6,h7,h8,h9,h10⟩:=h;have hc:Chg (fun i=>i=I.tp) w w':=Chg.one hg rfl;obtain ⟨a1,a2,a3,a4,a5,b1,b2',b3,b4,c1,c2,c3,d1,d2,e1⟩:=nodup6 h7;refine ⟨hc.blk h1 a1,h2.chg hc (fun ad ha e=>h8 ad ha (.inl (.inr (.inl e)))),ht,hc.votes h4 (Ne.symm b2'),?_,h6.chg hc (Ne.symm b4),?_,?_,fun i hi=>Nat.lt_of_lt_of_le (h9 i hi) hg.size,fun i hi hm=>h10 i hi (hmm i (h9 i hi) hm)⟩
 ·obtain ⟨n,js,G,l1,l2,l3,l4,l5⟩:=h5;refine ⟨n,js,G,hc.raw l1 (Ne.symm b3),l2,l3,l4,fun r=>⟨(l5 r).1,fun x hx'=>?_⟩⟩;obtain ⟨v,hv,hled⟩:=(l5 r).2 x hx';refine ⟨v,hv,(LedAt.chg (hled.here hN) hc (fun i hi e=>hi.1 (.inl (.inr (.inl e))))).imp (fun i hi hf=>?_)⟩;rcases hf with hf | hf
  ·exact hi.1 (.inl (hmm i hi.2 hf))
  ·exact hi.1 (.inr hf)
 ·simp only [List.nodup_cons,List.mem_cons,List.not_mem_nil,or_false,not_or,not_false_eq_true,and_true,List.nodup_nil];exact ⟨⟨a1,by omega,a3,a4,a5⟩,⟨by omega,b2',b3,b4⟩,⟨by omega,by omega,by omega⟩,⟨d1,d2⟩,e1⟩
 ·intro ad had hf;have hl:ad.block < w.heap.size:=by
   have hb2:=h2;rw [had] at hb2;exact Ints.lt hb2 hN
  rcases hf with hf | hf
  ·exact h8 ad had (.inl (hmm _ hl hf))
  ·exact h8 ad had (.inr hf)
theorem SC.cutted (h:SC w I σ base cs) (hN:0 < σ.bs.length) {b2 m:Nat} {f:Int} {F:Int→Option (Int×Int×Int)} (ht:TreeAt w' I.tp b2 m f F) (hg:w.grownBy w' (some I.tp)) (hb:w.heap.size≤b2) :
  SC w' { I with tb:=b2 } { σ with n:=m,f:=f,F:=F } base cs∧Stp I { I with tb:=b2 } w w':=
 ⟨⟨h.st.cutted hN ht hg hb,h.row.kept hg (.inr (h.chm (.inr (.inl rfl)))),h.lo,Nat.le_trans h.bl hg.size⟩,⟨Chg.one hg (.inl (.inr (.inl rfl))),rfl,fun _ h=>.inl h,.inr hb⟩⟩
end
end Go.Proofs.YtndfpmboanohcaaGreatDoor
