/- Contract of (*array.Engine).Head. -/
import Derived.Test.YtndfpmboanohcaaGreatDoorArr
namespace Go.Proofs.YtndfpmboanohcaaGreatDoor
set_option maxRecDepth 100000
open Go.RowKit Go.Maps SkipPure
def bset (B:Nat→Int) (i:Nat) (x:Int):Nat→Int:=fun j=>if j=i then x else B j
def betterN (X:Nat→Nd) (b k:Nat):Bool:=decide ((X b).w < (X k).w) || ((X k).w == (X b).w && decide ((X b).r < (X k).r))
def betterF (X:Nat→Nd) (B:Nat→Int) (k:Nat):Bool:=decide (B (X k).p.toNat < 0) || betterN X (B (X k).p.toNat).toNat k
section
open Classical
noncomputable def bestS (may:Int→Prop) (X:Nat→Nd) (B:Nat→Int) (k:Nat):Nat→Int:=
 if may (X k).r∧0≤(X k).p∧betterF X B k=true then bset B (X k).p.toNat k else B
end
noncomputable def bestL (may:Int→Prop) (X:Nat→Nd):Nat→(Nat→Int)→(Nat→Int)
 | 0,B=>B
 | m+1,B=>bestL may X m (bestS may X B (m+1))
def BestOk (B:Nat→Int) (n:Nat):Prop:=∀ i,i < n→B i = -1∨(i:Int) < B i∧B i < n
def walkB (B:Nat→Int):Nat→Int→Int
 | 0,at_=>at_
 | f+1,at_=>if 0≤at_∧0≤B at_.toNat then walkB B f (B at_.toNat) else at_
def RootOk (X:Nat→Nd) (n:Nat):Prop:=∀ i,i < n→inU (X i).r
noncomputable def headF (may:Int→Prop) (X:Nat→Nd) (n:Nat) (jr:Int):Int:=
 if walkB (bestL may X (n - 1) (fun _=>-1)) n (fnd X jr n) < 0 then jr else (X (walkB (bestL may X (n - 1) (fun _=>-1)) n (fnd X jr n)).toNat).r
theorem BestOk.step {may:Int→Prop} {X:Nat→Nd} {B:Nat→Int} {n k:Nat} (h:BestOk B n) (hp:ParOk X n) (hk:k < n):BestOk (bestS may X B k) n:=by
 intro i hi;unfold bestS;split
 ·next hc=>
  unfold bset;by_cases e:i=(X k).p.toNat
  ·rw [if_pos e];have:=hp k hk;right;omega
  ·rw [if_neg e];exact h i hi
 ·exact h i hi
theorem walkB_stop {B:Nat→Int} {at_:Int} (h:¬ (0≤at_∧0≤B at_.toNat)) : ∀ f,walkB B f at_=at_
 | 0=>rfl
 | f+1=>by rw [walkB,if_neg h]
theorem walkB_bd {B:Nat→Int} {n:Nat} (h:BestOk B n) : ∀ (f:Nat) (at_:Int),-1≤at_→at_ < n→-1≤walkB B f at_∧walkB B f at_ < n
 | 0,at_,h1,h2=>⟨h1,h2⟩
 | f+1,at_,h1,h2=>by
  rw [walkB];split
  ·next hc=>
   have:=h at_.toNat (by omega);exact walkB_bd h f _ (by omega) (by omega)
  ·exact ⟨h1,h2⟩
theorem walkB_enough {B:Nat→Int} {n:Nat} (h:BestOk B n) : ∀ (f:Nat) (at_:Int),-1≤at_→at_ < n→(n:Int) - at_≤f+1→∀ f',f≤f'→walkB B f' at_=walkB B f at_
 | 0,at_,h1,h2,h3,f',_=>by
  refine walkB_stop (fun hc=>?_) f';have:=h at_.toNat (by omega);omega
 | f+1,at_,h1,h2,h3,f',hf=>by
  obtain ⟨g,rfl⟩ : ∃ g,f'=g+1:=⟨f' - 1,by omega⟩;rw [walkB,walkB];split
  ·next hc=>
   have:=h at_.toNat (by omega);exact walkB_enough h f _ (by omega) (by omega) (by omega) g (by omega)
  ·rfl
section
variable {w w':World} {I:Ids} {σ:St} {J:AIds} {α:Arr}
def ORow (w:World) (b n:Nat) (B:Nat→Int):Prop:=w.rowIs b 3 n (fun i=>.int .i64 (B i))
theorem ORow.set {b n:Nat} {B:Nat→Int} (h:ORow w b n B) (i:Nat) (x:Int):ORow (w.setCell ⟨b,i,none⟩ (.int .i64 x)) b n (bset B i x):=
 (Go.World.rowIs.set h i (.int .i64 x)).congr (fun j _=>by unfold bset;split <;> rfl)
theorem ORow.kept {b n:Nat} {B:Nat→Int} {row:Option Nat} (h:ORow w b n B) (hg:w.grownBy w' row) (hne:row≠some b):ORow w' b n B:=
 Go.World.rowIs.of_block h (hg.block b (Go.World.rowIs.lt h) (fun e=>hne e.symm))
theorem zeroB2 (w:World):(zeroValue 4).run Tryz.prog w=.ok (.bool false) w:=by kernel_rfl
theorem BSet.has {b:Nat} {P:Int→Prop} (h:BSet w b P) {k:Int} (hk:inU k) {mt:TypeId} (ht:Tryz.prog.underlying mt=some (.map 27 4)) (B:Bool) (hB:B=true↔P k):(Instr.lookup mt (.map (some b)) (.int .u64 k) false).run Tryz.prog w=.ok (.bool B) w:=by
 obtain ⟨n1,js1,k1,_⟩:=h;have k2:=k1.look (mt:=mt) Tryz.underlying27 ht (zeroB2 _) hk;unfold setF at k2;cases B with
 | true=>rw [if_pos (hB.1 rfl)] at k2;exact k2
 | false=>rw [if_neg (fun h=>by simpa using hB.2 h)] at k2;exact k2
set_option maxHeartbeats 8000000 in
theorem head_calls (h:StoreAt w I σ) (hw:StWf σ) (ha:ArrAt w J I.p α) (hx : ∀ i,AOwn J i→I.ex i) (hp:ParOk α.X α.n) (hr:RootOk α.X α.n) (hn1:1≤α.n) {ks:List Int} (hks:Rising σ.F ks) (hkl:ks.length≤1000000) (hS:SortUpTo σ.n) :
  Calls Tryz.prog 158 #[.pointer (some ⟨J.q,0,none⟩)] w fun e w'=>e=.returned (.int .u64 (headF (MayLead σ.F σ.f ks (srcG σ) σ.je σ.fr (eOf σ.slot σ.S)) (passF α (boostF σ.bs σ.S σ.B) σ.boosted).X α.n σ.jr)) ∧
   ArrAt w' J I.p (passF α (boostF σ.bs σ.S σ.B) σ.boosted)∧Chg (AOwn J) w w':=by
 have HH:=lh h;have HA:=lh ha;have hn:=ha.n;obtain ⟨may,hmay⟩ : ∃ may,may=MayLead σ.F σ.f ks (srcG σ) σ.je σ.fr (eOf σ.slot σ.S):=⟨_,rfl⟩;obtain ⟨β,hβ⟩ : ∃ β,β=passF α (boostF σ.bs σ.S σ.B) σ.boosted:=⟨_,rfl⟩;have hβn:β.n=α.n:=by rw [hβ];rfl
 rw [← hβn] at hn1;have hpo:ParOk β.X β.n:=by rw [hβn];exact hp.same (fun i=>by rw [hβ];exact passF_p _ _ _ i)
 have hro:RootOk β.X β.n:=by rw [hβn];exact fun i hi=>by rw [hβ,passF_r];exact hr i hi
 rw [← hmay,← hβ,← hβn];rw [← hβn] at hn;have hS1:=hw.may.s2;have HW:=lh hw;have HX:=lh hx;have HP:=lh hp;have HR:=lh hr;have HKS:=lh hks;have HSS:=lh hS;have HMAY:=lh hmay;have HB:=lh hβ;have HPO:=lh hpo;have HRO:=lh hro;clear hw hx hp hr hks hS hmay hβ hpo hro;clear h ha hβn;go_enter Tryz.func158,Tryz.ntmps158
 go_wp2_with fail
 refine (pass_calls HH.out HW.out.may HA.out HX.out HP.out).mono ?_;rintro e w1 ⟨rfl,ha,hc⟩;rw [← HB.out] at ha;replace HH:=lh (HH.out.exch hc HX.out);clear HA;have HA:=lh ha;have HG:=lh hc;clear ha hc;go_upto_region 2 with (fail)
 obtain ⟨a0,a1,a2⟩:=HA.out.blk.c3;have c3:=HH.out.s3;have hgd:=gdrew (gR w1 none);replace HH:=lh (HH.out.g hgd);replace HA:=lh (HA.out.kept0 hgd);replace HG:=lh (HG.out.trans (Chg.of hgd));clear hgd
 go_region_held3 (fun w'=>w'.cell? ⟨J.q,0,none⟩=some (.pointer (some ⟨I.p,0,none⟩))∧w'.cell? ⟨I.p,3,none⟩=some (.pointer (some ⟨I.tp,0,none⟩))) (go_keep)
  (first
    | (go_at_call 144
       refine (view_calls HH.out HW.out).mono ?_;rintro e w2 ⟨m,mn,rfl,hm,hg⟩;have d0:=(HA.out.kept0 hg).blk.at 0;have d3:=(HH.out.g hg).s3;replace HH:=lh (HH.out.g hg);replace HA:=lh (HA.out.kept0 hg);replace HG:=lh (HG.out.trans (Chg.of hg));have HM:=lh hm;clear hm hg)
    | (go_at_call 149
       refine (viable_calls HH.out.tree HW.out.tree HM.out HKS.out (by omega) (by have:=HW.out.n;omega) HSS.out HW.out.fr (srcG_bd HW.out)).mono ?_;rintro e w3 ⟨ob,rfl,hob,hol,hg⟩;rw [← HMAY.out] at hob;have e0:=(HA.out.kept0 hg).blk.at 0;have e3:=(HH.out.g hg).s3;replace HH:=lh (HH.out.g hg);replace HA:=lh (HA.out.kept0 hg);replace HG:=lh (HG.out.trans (Chg.of hg));have HOB:=lh hob;clear hob hg))
 have hni:=fun i (hi:i < β.n)=>HRO.out i hi;have HNI:=lh hni;clear hni d0 d3 e0 e3 a0 a1 a2 c3 HM;have hmk:=run_make_row' (P:=Tryz.prog) 62 3 (.int .i64 0) 8 Tryz.underlying62 info_int rfl .i64 .i64 β.n (by omega) (by omega);obtain ⟨a0,a1,a2⟩:=HA.out.blk.c3;go_upto_region 4 with (fail)
 have h0:ORow (w3.alloc (Obj.cells (madeCells #[Value.int IntKind.i64 0] β.n) 3)) w3.heap.size β.n (fun i=>if i < 0 then -1 else 0):=(World.rowIs_made w3 (.int .i64 0) β.n 3).congr (fun i _=>by simp);have hg:=World.grownBy_alloc w3 (Obj.cells (madeCells #[Value.int IntKind.i64 0] β.n) 3) none;clear hmk a0 a1 a2;generalize w3.alloc (Obj.cells (madeCells #[Value.int IntKind.i64 0] β.n) 3)=w4 at h0 hg ⊢;obtain ⟨q,hq⟩ : ∃ q,q=w3.heap.size:=⟨_,rfl⟩;rw [← hq] at h0 ⊢;have hqs:w3.heap.size≤q:=by omega
 have H0:=lh h0;have H3:=lh hg;have HQ:=lh hq;clear h0 hg hq;go_wp2_with fail
 go_loopw [33] (fun v33 wr=>∃ j:Nat,v33=.int .i64 (j:Int)∧j≤β.n∧ORow wr q β.n (fun i=>if i < j then -1 else 0)∧w3.grownBy wr none) (fun v33 _=>β.n - (intOf v33).toNat)
 case atStart=>exact ⟨0,rfl,by omega,H0.out,H3.out⟩
 case round=>
  obtain ⟨j,rfl,hj,hrow,hg⟩:=hrel;by_cases hlt:j < β.n
  ·have hc:=Go.World.rowIs.cell hrow hlt;have hf:=Go.World.rowIs.frozen hrow j;have HROW:=lh hrow;have HG3:=lh hg;clear hrow hg;simp only [Nat.lt_irrefl,if_false] at hc;go_wp2;exact ⟨⟨j+1,by simp,by omega,(HROW.out.set j (-1)).congr (fun i hi=>by
    unfold bset;by_cases e:i=j
    ·subst e;simp
    ·rw [if_neg e];have : (i < j)=(i < j+1):=by apply propext;omega
     simp only [this]),set_grown _ hqs HG3.out⟩,by simp [intOf];omega⟩
  ·obtain rfl:j=β.n:=by omega
   have hrow2:ORow wr q β.n (fun _=>-1):=Go.World.rowIs.congr hrow (fun i hi=>by simp [hi]);clear hrow;have HROW:=lh hrow2;have HG3:=lh hg;clear hrow2 hg;go_upto_region 9 with (fail)
   obtain ⟨X,hX⟩ : ∃ X,X=β.X:=⟨_,rfl⟩;obtain ⟨n,hnn⟩ : ∃ n,n=β.n:=⟨_,rfl⟩;obtain ⟨BF,hBF⟩ : ∃ BF,BF=bestL may X (n - 1) (fun _=>-1):=⟨_,rfl⟩;have ha : ∀ wz,w3.grownBy wz none→StoreAt wz I σ∧ArrAt wz J I.p β∧NAt wz J.g J.c n X∧BSet wz ob may∧Chg (AOwn J) w wz:=fun wz hz=>⟨HH.out.g hz,HA.out.kept0 hz,by rw [hX,hnn];exact (HA.out.kept0 hz).row,HOB.out.g hz,HG.out.trans (Chg.of hz)⟩;have HALL:=lh ha;have hst : ∃ (m:Nat) (B:Nat→Int) (v:Int),Value.int .i64 ((n:Int) - 1)=.int .i64 v∧v=(m:Int)∧m < n∧bestL may X m B=BF∧BestOk B n∧ORow wr q n B∧w3.grownBy wr none:=
    ⟨n - 1,fun _=>-1,_,rfl,by omega,by omega,hBF.symm,fun i _=>.inl rfl,by rw [hnn];exact HROW.out,HG3.out⟩
   have HST:=lh hst;have hpo:=HPO.out;have hro:=HRO.out;rw [← hX,← hnn] at hpo hro;clear HPO HRO;have hfin:headF may β.X β.n σ.jr=if walkB BF n (fnd X σ.jr n) < 0 then σ.jr else (X (walkB BF n (fnd X σ.jr n)).toNat).r:=by unfold headF;rw [← hX,← hnn,← hBF]
   have HPO:=lh hpo;have HRO:=lh hro;have HFIN:=lh hfin;clear hpo hro hfin;obtain ⟨a0,a1,a2⟩:=(HALL.out wr HG3.out).2.1.blk.c3;rw [← hnn] at hn hn1 a1 ⊢;clear hst ha hlt hj H0 H3 HROW HH HA HG HOB HNI;have HNN:=lh hnn;have HXX:=lh hX;have HBF:=lh hBF;clear hnn hX hBF;go_wp2_with fail
   clear a0 a1 a2
   go_loopw [6] (fun v6 wr=>∃ (m:Nat) (B:Nat→Int) (v:Int),v6=.int .i64 v∧v=(m:Int)∧m < n∧bestL may X m B=BF∧BestOk B n∧ORow wr q n B∧w3.grownBy wr none) (fun v6 _=>(intOf v6).toNat)
   case atStart=>exact HST.out
   case round=>
    obtain ⟨m,B,v,rfl,rfl,hm,hB,hbo,hrow,hg⟩:=hrel;have HBB:=lh hB;have HBO:=lh hbo;have HROW:=lh hrow;have HG3:=lh hg;clear hB hbo hrow hg;by_cases hm0:m=0
    ·subst hm0;have hbb:=HBB.out;unfold bestL at hbb;subst hbb;have a0:=(HALL.out wr HG3.out).2.1.blk.at 0;have c8:=(HALL.out wr HG3.out).1.s8;go_wp2_with fail
     refine (find_calls (HALL.out wr HG3.out).2.1 σ.jr).mono ?_;rintro e w5 ⟨rfl,hg⟩;rw [← HXX.out,← HNN.out];clear a0 c8;have hb5:=HROW.out.kept hg (by simp);replace HG3:=lh (g2 HG3.out hg);clear HROW hg;have HROW:=lh hb5;clear hb5;obtain ⟨at0,hat⟩ : ∃ at0,at0=fnd X σ.jr n:=⟨_,rfl⟩;have hab:=fnd_lt X σ.jr n;have hst : ∃ at_:Int,Value.int .i64 at0=.int .i64 at_∧-1≤at_∧at_ < n∧walkB B n at_=walkB B n (fnd X σ.jr n):=⟨at0,rfl,by omega,by omega,by rw [hat]⟩;rw [← hat];obtain ⟨T,hT⟩ : ∃ T,T=walkB B n (fnd X σ.jr n):=⟨_,rfl⟩;have hTb:=walkB_bd HBO.out n (fnd X σ.jr n) hab.1 hab.2;have hfin:=HFIN.out;rw [← hT] at hst hTb hfin;clear HFIN hat hab hm;have HST2:=lh hst;have HTT:=lh hT;have HFIN:=lh hfin;clear hst hT hfin;go_wp2_with fail
     go_loopw [9] (fun v9 wz=>wz=w5∧∃ at_:Int,v9=.int .i64 at_∧-1≤at_∧at_ < n∧walkB B n at_=T) (fun v9 _=>((n:Int) - intOf v9).toNat)
     case atStart=>exact ⟨rfl,HST2.out⟩
     case round=>
      obtain ⟨rfl,at_,rfl,h1,h2,h3⟩:=hrel;by_cases hneg:at_ < 0
      ·have hT:at_=T:=by rw [← h3];exact (walkB_stop (by omega) n).symm
       have e:(if T < 0 then σ.jr else (X T.toNat).r)=σ.jr:=by rw [← hT,if_pos hneg]
       rw [e] at HFIN;have hd:decide (at_ ≥ 0)=false:=decide_eq_false (by omega);have c8:=(HALL.out wr HG3.out).1.s8;have a0:=(HALL.out wr HG3.out).2.1.blk.at 0;clear h3 hT e hTb;go_wp2;go_ret;exact ⟨by rw [HFIN.out];rfl,(HALL.out wr HG3.out).2.1,(HALL.out wr HG3.out).2.2.2.2⟩
      ·obtain ⟨a,rfl⟩ : ∃ a:Nat,at_=(a:Int):=⟨at_.toNat,by omega⟩;have han:a < n:=by omega
       have hca:=Go.World.rowIs.cell HROW.out han;have hbb:=HBO.out a han;obtain ⟨b,hb⟩ : ∃ b,b=B a:=⟨_,rfl⟩;rw [← hb] at hca hbb;by_cases hb0:0≤b
       ·have hw:walkB B n b=T:=by
         have h4:=walkB_enough HBO.out n (a:Int) (by omega) (by omega) (by omega) (n+1) (by omega);rw [walkB,if_pos ⟨by omega,by rw [Int.toNat_natCast,← hb];exact hb0⟩,Int.toNat_natCast,← hb,h3] at h4;exact h4
        have HWB:=lh hw;have HBE:=lh hb;clear hw hb;clear h3 hneg h1 h2;have hb1 : -1≤b:=by omega
        have hb2:b < n:=by omega
        have hb3:(a:Int) < b:=by omega
        clear hbb;go_wp2;exact ⟨⟨trivial,b,rfl,by omega,hb2,HWB.out⟩,by simp [intOf];omega⟩
       ·have hT:(a:Int)=T:=by rw [← h3];exact (walkB_stop (by rw [Int.toNat_natCast,← hb];omega) n).symm
        have e:(if T < 0 then σ.jr else (X T.toNat).r)=(X a).r:=by rw [← hT,if_neg (by omega),Int.toNat_natCast]
        rw [e] at HFIN;have hd:decide (b ≥ 0)=false:=decide_eq_false (by omega);have hd2:decide ((a:Int) < 0)=false:=decide_eq_false (by omega);have a0:=(HALL.out wr HG3.out).2.1.blk.at 0;have a1:=(HALL.out wr HG3.out).2.1.blk.at 1;rw [← HNN.out] at a1;have d0:=((HALL.out wr HG3.out).2.2.1.c5 han).1;have HBE:=lh hb;clear h3 hT e hTb hneg h1 h2 hb0 hbb hb;go_wp2;go_ret;exact ⟨by rw [HFIN.out];rfl,(HALL.out wr HG3.out).2.1,(HALL.out wr HG3.out).2.2.2.2⟩
    ·obtain ⟨k,rfl⟩ : ∃ k,m=k+1:=⟨m - 1,by omega⟩;clear hm0;obtain ⟨a0,a1,a2⟩:=(HALL.out wr HG3.out).2.1.blk.c3;rw [← HNN.out] at a1;obtain ⟨x,hx⟩ : ∃ x,x=X (k+1):=⟨_,rfl⟩;have hd:=(HALL.out wr HG3.out).2.2.1.c5 hm;have hxp:=HPO.out (k+1) hm;have hxr:=HRO.out (k+1) hm;rw [← hx] at hd hxp hxr;obtain ⟨d0,d1,d2,d3,d4⟩:=hd;have HX1:=lh hx;clear hx;have hkk:((k+1:Nat):Int) < n:=by omega
     go_upto_region 13 with (fail)
     refine nmC1 ?_;intro W b0 hz hg;have hql:=Go.World.rowIs.lt HROW.out;obtain ⟨q7,hq_q7⟩ : ∃ q,q=wr.heap.size:=⟨_,rfl⟩;rw [← hq_q7] at b0 hz hql ⊢;have HQ_q7:=lh hq_q7;clear hq_q7;replace HROW:=lh (HROW.out.kept hg (by simp));replace HG3:=lh (g2 HG3.out hg);have HB0:=lh b0;clear b0 hg d0 d1 d2 d3 d4 a0 a1 a2 hz;have hBS:bestL may X k (bestS may X B (k+1))=BF:=HBB.out;have hbo2:=HBO.out.step (may:=may) HPO.out hm;obtain ⟨B2,hB2⟩ : ∃ B2,B2=bestS may X B (k+1):=⟨_,rfl⟩;rw [← hB2] at hBS hbo2;unfold bestS at hB2;rw [← HX1.out] at hB2;obtain ⟨Bm,hBm⟩ : ∃ Bm:Bool,Bm=true↔may x.r:=⟨@decide (may x.r) (Classical.propDecidable _),by simp⟩;have hlk:=(HALL.out W HG3.out).2.2.2.1.has hxr (mt:=75) Tryz.underlying75 Bm hBm;obtain ⟨d0,d1,d2,d3,d4⟩:=HB0.out.c5;have HBS:=lh hBS;have HBO2:=lh hbo2;clear hBS hbo2;cases Bm with
     | false=>
      rw [if_neg (fun h=>by simpa using hBm.2 h.1)] at hB2;subst hB2;clear hBm;go_wp2_with fail
      exact ⟨⟨k,B2,_,rfl,by omega,by omega,HBS.out,HBO.out,HROW.out,HG3.out⟩,by simp [intOf]⟩
     | true=>
      have hmx:=hBm.1 rfl;have HMX:=lh hmx;clear hBm hmx;by_cases hp0:0≤x.p
      ·obtain ⟨y,hy⟩ : ∃ y:Nat,x.p=(y:Int):=⟨x.p.toNat,by omega⟩;have hyk:y < k+1:=by omega
       have hyn:y < n:=by omega
       rw [hy] at d1;have hxy:=hy;obtain ⟨Bt,hBt⟩ : ∃ Bt,Bt=betterF X B (k+1):=⟨_,rfl⟩;rw [← hBt] at hB2;have hB3:B2=if Bt=true then bset B y ((k+1:Nat):Int) else B:=by
        rw [hB2,hy,Int.toNat_natCast];have h0:(0:Int)≤(y:Int):=by omega
        simp only [HMX.out,h0,true_and]
       have hBt2:Bt=(decide (B y < 0) || betterN X (B y).toNat (k+1)):=by rw [hBt];unfold betterF;rw [← HX1.out,hy,Int.toNat_natCast]
       have hyb:=HBO.out y hyn;have hcb:=Go.World.rowIs.cell HROW.out hyn;have hfb:=Go.World.rowIs.frozen HROW.out y;obtain ⟨b,hb⟩ : ∃ b,b=B y:=⟨_,rfl⟩;rw [← hb] at hcb hyb hBt2;have hyn':(y:Int) < n:=by omega
       have hd1:decide ((y:Int) < 0)=false:=decide_eq_false (by omega);have HBT:=lh hBt2;have HB3:=lh hB3;have HBY:=lh hb;have HYY:=lh hxy;clear hBt2 hB3 hb hxy;clear hB2 hBt hp0 hxp hy;go_upto_region 15 with (fail)
       clear hlk
       go_cut [112] (fun s112 wx=>s112=.bool Bt∧W.grownBy wx none)
       case first=>
        by_cases hb0:b < 0
        ·have hbt:=HBT.out;rw [decide_eq_true hb0,Bool.true_or] at hbt;subst hbt;have hd2:decide (b < 0)=true:=decide_eq_true hb0;clear hyb hb0;go_quiet (fail)
         go_wp2_with fail
         go_meet
         exact ⟨rfl,drewN_grown _ _⟩
        ·obtain ⟨z,rfl⟩ : ∃ z:Nat,b=(z:Int):=⟨b.toNat,by omega⟩;have hzn:z < n:=by omega
         have hzn':(z:Int) < n:=by omega
         have hbt:=HBT.out;rw [decide_eq_false hb0,Bool.false_or,Int.toNat_natCast] at hbt;unfold betterN at hbt;rw [← HX1.out] at hbt;have hd2:decide ((z:Int) < 0)=false:=decide_eq_false hb0;obtain ⟨xz,hxz⟩ : ∃ xz,xz=X z:=⟨_,rfl⟩;have hcz:=(HALL.out W HG3.out).2.2.1.c5 hzn;have a1:=(HALL.out W HG3.out).2.1.blk.at 1;rw [← HNN.out] at a1;rw [← hxz] at hcz hbt;obtain ⟨z0,z1,z2,z3,z4⟩:=hcz;have HBT2:=lh hbt;have HXZ:=lh hxz;clear hbt hxz;clear hyb hb0 z1 z2 z3 HBT;by_cases hw1:xz.w < x.w
         ·have hbt:=HBT2.out;rw [decide_eq_true hw1,Bool.true_or] at hbt;subst hbt;have hd3:decide (x.w > xz.w)=true:=decide_eq_true hw1;go_quiet (fail)
          go_wp2_with fail
          go_meet
          exact ⟨rfl,drewN_grown _ _⟩
         ·have hd3:decide (x.w > xz.w)=false:=decide_eq_false hw1;have hbt:=HBT2.out;rw [decide_eq_false hw1,Bool.false_or] at hbt;replace HBT2:=lh hbt;clear hbt;by_cases hw2:x.w=xz.w
          ·have hd4:(x.w == xz.w)=true:=by simp [hw2]
           have hbt:=HBT2.out;rw [hd4,Bool.true_and] at hbt;replace HBT2:=lh hbt;clear hbt hw1 hw2;obtain ⟨Bz,hBz⟩ : ∃ Bz,Bz=decide (xz.r < x.r):=⟨_,rfl⟩;rw [← hBz] at HBT2;have hd5:decide (x.r > xz.r)=Bz:=hBz.symm;clear hBz;have hbt:=HBT2.out;subst hbt;go_quiet (fail)
           go_wp2_with fail
           go_meet
           exact ⟨rfl,drewN_grown _ _⟩
          ·have hd4:(x.w == xz.w)=false:=by simp [hw2]
           have hbt:=HBT2.out;rw [hd4,Bool.false_and] at hbt;subst hbt;clear hw1 hw2;go_quiet (fail)
           go_wp2_with fail
           go_meet
           exact ⟨rfl,drewN_grown _ _⟩
       case rest=>
        obtain ⟨rfl,hg⟩:=hcut;replace HROW:=lh (HROW.out.kept hg (by simp));replace HG3:=lh (g2 HG3.out hg);replace HB0:=lh (HB0.out.g hg);clear hg hcb hfb d0 d1 d2 d3 d4;have hcb:=Go.World.rowIs.cell HROW.out hyn;have hfb:=Go.World.rowIs.frozen HROW.out y;obtain ⟨d0,d1,d2,d3,d4⟩:=HB0.out.c5;rw [HYY.out] at d1;cases Bt with
        | false=>
         have hb3:=HB3.out;rw [if_neg (by simp)] at hb3;subst hb3;go_wp2_with fail
         exact ⟨⟨k,B2,_,rfl,by omega,by omega,HBS.out,HBO.out,HROW.out,HG3.out⟩,by simp [intOf]⟩
        | true=>
         have hb3:=HB3.out;rw [if_pos rfl] at hb3;go_wp2_with fail
         have hs:=HROW.out.set y ((k+1:Nat):Int);rw [← hb3] at hs;exact ⟨⟨k,B2,_,rfl,by omega,by omega,HBS.out,HBO2.out,hs,set_grown _ (by have:=HQ.out;omega) HG3.out⟩,by simp [intOf]⟩
      ·rw [if_neg (fun h=>hp0 h.2.1)] at hB2;subst hB2;have hd:decide (x.p < 0)=true:=decide_eq_true (by omega);clear hxp hp0;go_wp2_with fail
       exact ⟨⟨k,B2,_,rfl,by omega,by omega,HBS.out,HBO.out,HROW.out,HG3.out⟩,by simp [intOf]⟩
end
end Go.Proofs.YtndfpmboanohcaaGreatDoor
