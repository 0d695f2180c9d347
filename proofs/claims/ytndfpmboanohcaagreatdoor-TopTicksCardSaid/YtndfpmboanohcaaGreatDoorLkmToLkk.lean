/- The link engine's memory. -/
import Derived.Test.YtndfpmboanohcaaGreatDoorBfg
namespace Go.Proofs.YtndfpmboanohcaaGreatDoor
set_option maxRecDepth 100000
open Go.RowKit Go.Maps SkipPure
structure Lk where
 dom:Int→Prop
 par:Int→Int
 kid:Int→List Int
 wt:Int→Int
 b:Int
structure LIds where
 q:Nat
 mb:Nat
 ad:Int→Option Nat
 lok:Nat→Prop
def LOwn (J:LIds) (i:Nat):Prop:=i=J.q∨i=J.mb∨J.lok i
def lptr (o:Option Nat):Value:=.pointer (o.map fun a=>⟨a,0,none⟩)
def lmap (ad:Int→Option Nat):Int→Option Value:=fun r=>(ad r).map fun a=>.pointer (some ⟨a,0,none⟩)
def lcell (J:LIds) (t:Lk) (r:Int) (v:Value):Array Value:=#[.int .u64 r,lptr (J.ad (t.par r)),v,.int .u64 (t.wt r)]
def lrow (J:LIds) (t:Lk) (r:Int):List Value:=(t.kid r).map fun k=>lptr (J.ad k)
def LNode (w:World) (J:LIds) (t:Lk) (r:Int) (a:Nat):Prop:=
 J.lok a∧∃ v,Blk w a (lcell J t r v) 154∧w.ownsRow 0 151 1 v (t.kid r).length (lrow J t r)∧(∀ b,v.ownBlock=some b→J.lok b)∧(t.kid r=[]→v.ownBlock=none)
structure LkAt (w:World) (J:LIds) (p:Nat) (t:Lk):Prop where
 blk:Blk w J.q #[.pointer (some ⟨p,0,none⟩),.map (some J.mb),.int .u64 t.b] 116
 map : ∃ (n:Nat) (js:List Int),RawMap Tryz.prog 27 w J.mb n (lmap J.ad)∧js.Nodup∧js.length=n∧∀ k∈js,(J.ad k).isSome=true
 dom : ∀ r,(J.ad r).isSome=true↔t.dom r
 node : ∀ r a,J.ad r=some a→LNode w J t r a
 lokb : ∀ i,J.lok i→i < w.heap.size∧i≠J.q∧i≠J.mb
 ne:J.q≠J.mb
 z:¬ t.dom 0
 u : ∀ r,t.dom r→inU r
structure LWf (t:Lk) (M:Nat):Prop where
 rk : ∃ rk:Int→Nat,∀ r,t.dom r→rk r < M∧(t.par r=0∨(t.dom (t.par r)∧rk (t.par r) < rk r))
 kid : ∀ r k,t.dom r→k∈t.kid r→t.dom k∧t.par k=r
 ks : ∃ ks:List Int,ks.length≤M∧∀ r,t.dom r→r∈ks
section
variable {w w':World} {J:LIds} {p:Nat} {t:Lk}
theorem LNode.chg {S:Nat→Prop} {r:Int} {a:Nat} (h:LNode w J t r a) (hc:Chg S w w') (hs : ∀ i,J.lok i→¬ S i):LNode w' J t r a:=by
 obtain ⟨h0,v,h1,h2,h3⟩:=h;exact ⟨h0,v,hc.blk (q:=a) h1 (hs a h0),rowChg h2 hc (fun k hk=>hs k (h3.1 k hk)),h3⟩
theorem LkAt.chg {S:Nat→Prop} (h:LkAt w J p t) (hc:Chg S w w') (hs : ∀ i,LOwn J i→¬ S i):LkAt w' J p t:=by
 obtain ⟨n,js,m1,m2⟩:=h.map;exact ⟨hc.blk h.blk (hs _ (.inl rfl)),⟨n,js,hc.raw m1 (hs _ (.inr (.inl rfl))),m2⟩,h.dom,fun r a ha=>(h.node r a ha).chg hc (fun i hi=>hs i (.inr (.inr hi))),fun i hi=>⟨Nat.lt_of_lt_of_le (h.lokb i hi).1 hc.size,(h.lokb i hi).2⟩,h.ne,h.z,h.u⟩
theorem LkAt.g (h:LkAt w J p t) (hg:w.grownBy w' none):LkAt w' J p t:=h.chg (S:=fun _=>False) (Chg.of hg) (fun _ _ h=>h)
theorem LkAt.inj (h:LkAt w J p t) {r r':Int} {a:Nat} (h1:J.ad r=some a) (h2:J.ad r'=some a):r=r':=by
 obtain ⟨_,v,k1,_⟩:=h.node r a h1;obtain ⟨_,v',k2,_⟩:=h.node r' a h2;have e1:=Blk.at k1 0;have e2:=Blk.at k2 0;rw [e1] at e2
 simpa [lcell] using e2
theorem LkAt.notrow (h:LkAt w J p t) {r r':Int} {a:Nat} (h1:J.ad r=some a) {v:Value} (hv:w.ownsRow 0 151 1 v (t.kid r').length (lrow J t r')):v.ownBlock≠some a:=fun e=>by
 obtain ⟨_,v',k1,_⟩:=h.node r a h1;obtain ⟨cur,hcur⟩:=ownsRow_ty hv e;unfold Blk at k1;rw [k1] at hcur;cases hcur
theorem zero114 (w:World):(zeroValue 151).run Tryz.prog w=.ok (.pointer none) w:=by kernel_rfl
theorem LkAt.look (h:LkAt w J p t) {r:Int} (hr:inU r):(Instr.lookup 114 (.map (some J.mb)) (.int .u64 r) false).run Tryz.prog w=.ok (lptr (J.ad r)) w:=by
 obtain ⟨n,js,m1,_⟩:=h.map;have:=m1.look Tryz.underlying27 Tryz.underlying114 (zero114 w) hr;rw [this];unfold lmap lptr;cases J.ad r <;> rfl
theorem LkAt.turn (h:LkAt w J p t) {r:Int} {a:Nat} (ha:J.ad r=some a) {t':Lk} (hg:w.grownBy w' (some a)) (hn:LNode w' J t' r a) (hd:t'.dom=t.dom) (hb:t'.b=t.b) (ho : ∀ j,j≠r→t'.par j=t.par j∧t'.kid j=t.kid j∧t'.wt j=t.wt j):LkAt w' J p t':=by
 obtain ⟨n,js,m1,m2⟩:=h.map;obtain ⟨hla,_⟩:=h.node r a ha;have hlb:=h.lokb a hla;refine ⟨?_,⟨n,js,m1.kept hg (fun e=>hlb.2.2 (Option.some.inj e).symm),m2⟩,by rw [hd];exact h.dom,fun j c hj=>?_,fun i hi=>⟨Nat.lt_of_lt_of_le (h.lokb i hi).1 hg.size,(h.lokb i hi).2⟩,h.ne,by rw [hd];exact h.z,by rw [hd];exact h.u⟩
 ·rw [hb];exact h.blk.kept hg (fun e=>hlb.2.1 (Option.some.inj e))
 ·by_cases e:j=r
  ·subst e;rw [ha] at hj;obtain rfl:=Option.some.inj hj;exact hn
  ·obtain ⟨k0,v,k1,k2,k3⟩:=h.node j c hj;obtain ⟨o1,o2,o3⟩:=ho j e;have hca:a≠c:=fun e2=>e (h.inj hj (by rw [ha,e2]));have hc1:Chg (fun i=>i=a) w w':=Chg.one hg rfl;refine ⟨k0,v,?_,?_,k3.1,by rw [o2];exact k3.2⟩
   ·unfold lcell;rw [o1,o3];exact hc1.blk (q:=c) k1 (fun e2=>hca e2.symm)
   ·unfold lrow;rw [o2];exact rowChg k2 hc1 (fun k hk e2=>h.notrow ha k2 (by rw [hk,e2]))
end
def setW (t:Lk) (r x:Int):Lk:={ t with wt:=fun j=>if j=r then x else t.wt j }
section
open Classical
noncomputable def upL (g k:Int):Nat→Lk→Int→Lk
 | 0,t,_=>t
 | f+1,t,r=>if t.dom r then upL g k f (setW t r (us (ua (t.wt r) g) k)) (t.par r) else t
noncomputable def lwt (t:Lk) (r:Int):Int:=if t.dom r then t.wt r else 0
end
noncomputable def upF (t:Lk) (r g k:Int):Lk:=upL g k 4096 t r
theorem upL_no {g k:Int} {t:Lk} {r:Int} (h:¬ t.dom r) : ∀ f,upL g k f t r=t
 | 0=>rfl
 | f+1=>by unfold upL;rw [if_neg h]
theorem upL_yes {g k:Int} {t:Lk} {r:Int} (h:t.dom r) (f:Nat):upL g k (f+1) t r=upL g k f (setW t r (us (ua (t.wt r) g) k)) (t.par r):=by
 rw [upL,if_pos h]
def lmeas (rk:Int→Nat) (v:Value) (w:World):Nat:=
 match v with
 | .pointer (some ad)=>match w.cell? ad with
  | some (.int _ r)=>rk r+1
  | _=>0
 | _=>0
theorem lmeas_at {rk:Int→Nat} {w:World} {a:Nat} {kd:IntKind} {r:Int} (h:w.cell? ⟨a,0,none⟩=some (.int kd r)):lmeas rk (.pointer (some ⟨a,0,none⟩)) w=rk r+1:=by
 simp only [lmeas,h]
section
variable {w w':World} {J:LIds} {p:Nat} {t:Lk} {M:Nat}
theorem LkAt.setw (h:LkAt w J p t) {r:Int} {a:Nat} (ha:J.ad r=some a) (x:Int):LkAt (w.setCell ⟨a,3,none⟩ (.int .u64 x)) J p (setW t r x):=by
 obtain ⟨k0,v,k1,k2,k3⟩:=h.node r a ha;have hg:=gset w a 3 (.int .u64 x);refine h.turn ha hg ⟨k0,v,?_,?_,k3⟩ rfl rfl (fun j hj=>⟨rfl,rfl,if_neg hj⟩)
 ·have h1:=Blk.set k1 3 (.int .u64 x);have e:(lcell J t r v).setIfInBounds 3 (.int .u64 x)=lcell J (setW t r x) r v:=by
   unfold lcell setW;simp
  rw [← e];exact h1
 ·exact rowChg k2 (Chg.one (S:=fun i=>i=a) hg rfl) (fun k hk e=>h.notrow ha k2 (by rw [hk,e]))
set_option maxHeartbeats 4000000 in
theorem up_calls (h:LkAt w J p t) (hw:LWf t M) (hM:M≤4000) {r g k:Int} (hr:inU r) :
  Calls Tryz.prog 171 #[.pointer (some ⟨J.q,0,none⟩),.int .u64 r,.int .u64 g,.int .u64 k] w fun e w'=>e=.returned (.tuple #[])∧LkAt w' J p (upF t r g k)∧Chg J.lok w w':=by
 obtain ⟨rk,hrk⟩:=hw.rk;obtain ⟨R,hR⟩ : ∃ R,R=upF t r g k:=⟨_,rfl⟩;rw [← hR];have HA:=lh h;have a1:w.cell? ⟨J.q,1,none⟩=some (.map (some J.mb)):=h.blk.at 1;have hlk:=h.look hr;have HRK:=lh hrk;have HR:=lh hR;clear hrk hR;clear h;go_enter Tryz.func171,Tryz.ntmps171
 go_wp2_with fail
 clear a1 hlk
 go_loopw [8] (fun v8 wr=>∃ (t':Lk) (r':Int) (f:Nat),v8=lptr (J.ad r')∧LkAt wr J p t'∧upL g k f t' r'=R∧t'.dom=t.dom∧t'.par=t.par∧(¬ t.dom r'∨rk r' < f)∧Chg J.lok w wr) (fun v8 wr=>lmeas rk v8 wr)
 case atStart=>
  refine ⟨t,r,4096,rfl,HA.out,HR.out.symm,rfl,rfl,?_,Chg.refl _ _⟩;by_cases hd:t.dom r
  ·right;have:=(HRK.out r hd).1;omega
  ·exact .inl hd
 case round=>
  obtain ⟨t',r',f,rfl,hat,hup,hdm,hpr,hf,hc⟩:=hrel;cases hJ:J.ad r' with
  | none=>
   have hnd:¬ t'.dom r':=fun hd=>by have:=(hat.dom r').2 hd;rw [hJ] at this;cases this
   rw [upL_no hnd] at hup;have HAT:=lh hat;have HUP:=lh hup;have HC:=lh hc;clear hat hup hdm hpr hf hc hnd HA;show Code.wp _ _ _ _ _;simp only [lptr,Option.map_none];go_wp2
   go_end0
   exact ⟨rfl,by rw [← HUP.out];exact HAT.out,HC.out⟩
  | some a=>
   have hd:t'.dom r':=(hat.dom r').1 (by rw [hJ];rfl);have hdt:t.dom r':=by rw [← hdm];exact hd
   have hr2:=HRK.out r' hdt;obtain ⟨f',rfl⟩ : ∃ f',f=f'+1:=by
    rcases hf with hf | hf
    ·exact absurd hdt hf
    ·exact ⟨f - 1,by omega⟩
   rw [upL_yes hd] at hup;obtain ⟨k0,v,k1,k2,k3⟩:=hat.node r' a hJ;have d0:wr.cell? ⟨a,0,none⟩=some (.int .u64 r'):=Blk.at k1 0;have d1:wr.cell? ⟨a,1,none⟩=some (lptr (J.ad (t'.par r'))):=Blk.at k1 1;have d3:wr.cell? ⟨a,3,none⟩=some (.int .u64 (t'.wt r')):=Blk.at k1 3;have f3:=Blk.fr k1 3;have hat2:=hat.setw hJ (us (ua (t'.wt r') g) k);have hg:=gset wr a 3 (.int .u64 (us (ua (t'.wt r') g) k));have hc2:Chg J.lok w (wr.setCell ⟨a,3,none⟩ (.int .u64 (us (ua (t'.wt r') g) k))):=hc.trans (Chg.one hg k0);have hm1:lmeas rk (.pointer (some ⟨a,0,none⟩)) wr=rk r'+1:=lmeas_at d0;have hm2:lmeas rk (lptr (J.ad (t'.par r'))) (wr.setCell ⟨a,3,none⟩ (.int .u64 (us (ua (t'.wt r') g) k))) < rk r'+1:=by
    cases hq:J.ad (t'.par r') with
    | none=>show 0 < _;omega
    | some c=>
     obtain ⟨_,v',q1,_⟩:=hat2.node (t'.par r') c hq;have e0:=Blk.at q1 0;show lmeas rk (.pointer (some ⟨c,0,none⟩)) _ < _;rw [lmeas_at (kd:=.u64) (r:=t'.par r') e0];show rk (t'.par r')+1 < _;have hdp:t'.dom (t'.par r'):=(hat.dom _).1 (by rw [hq];rfl);rcases hr2.2 with h1 | ⟨_,h1⟩
     ·rw [hpr,h1] at hdp;exact absurd hdp hat.z
     ·rw [hpr];omega
   have hf2:¬ t.dom (t'.par r')∨rk (t'.par r') < f':=by
    rcases hr2.2 with h1 | ⟨_,h1⟩
    ·left;intro hdp;rw [hpr,h1,← hdm] at hdp;exact hat.z hdp
    ·right;rcases hf with hf | hf
     ·exact absurd hdt hf
     ·rw [hpr];omega
   have HALL:=lh (And.intro hat2 (And.intro hup (And.intro hdm (And.intro hpr (And.intro hf2 hc2)))));have HM:=lh (And.intro hm1 hm2);obtain ⟨P,hP⟩ : ∃ P,P=lptr (J.ad (t'.par r')):=⟨_,rfl⟩;rw [← hP] at d1;have HP:=lh hP;clear hat hup hdm hpr hf hc hd hdt hr2 k1 k2 k3 hat2 hg hc2 hm1 hm2 hf2 HA d0 hP;show Code.wp _ _ _ _ _;simp only [lptr,Option.map_some];go_wp2_with fail
   obtain ⟨i1,i2,i3,i4,i5,i6⟩:=HALL.out;obtain ⟨m1,m2⟩:=HM.out;exact ⟨⟨_,t'.par r',f',HP.out,i1,i2,i3,i4,i5,i6⟩,by rw [HP.out];show _ < lmeas rk (.pointer (some ⟨a,0,none⟩)) wr;rw [m1];exact m2⟩
set_option maxHeartbeats 2000000 in
theorem lweight_calls (h:LkAt w J p t) {r:Int} (hr:inU r) :
  Calls Tryz.prog 169 #[.pointer (some ⟨J.q,0,none⟩),.int .u64 r] w fun e w'=>e=.returned (.int .u64 (lwt t r))∧w.grownBy w' none:=by
 have a1:w.cell? ⟨J.q,1,none⟩=some (.map (some J.mb)):=h.blk.at 1;have hlk:=h.look hr;cases hJ:J.ad r with
 | none=>
  rw [hJ] at hlk;simp only [lptr,Option.map_none] at hlk;have e:lwt t r=0:=by unfold lwt;rw [if_neg (fun hd=>by have:=(h.dom r).2 hd;rw [hJ] at this;cases this)]
  rw [e];clear e h;go_enter Tryz.func169,Tryz.ntmps169
  go_wp2;go_ret;exact ⟨rfl,gR w none⟩
 | some a=>
  rw [hJ] at hlk;simp only [lptr,Option.map_some] at hlk;obtain ⟨k0,v,k1,_⟩:=h.node r a hJ;have d3:w.cell? ⟨a,3,none⟩=some (.int .u64 (t.wt r)):=Blk.at k1 3;have e:lwt t r=t.wt r:=by unfold lwt;rw [if_pos ((h.dom r).1 (by rw [hJ];rfl))]
  rw [e];clear e h k1;go_enter Tryz.func169,Tryz.ntmps169
  go_wp2;go_ret;exact ⟨rfl,gR w none⟩
end
theorem upL_same (g k:Int) : ∀ (f:Nat) (t:Lk) (r:Int),(upL g k f t r).dom=t.dom∧(upL g k f t r).par=t.par∧(upL g k f t r).kid=t.kid∧(upL g k f t r).b=t.b
 | 0,_,_=>⟨rfl,rfl,rfl,rfl⟩
 | f+1,t,r=>by
  by_cases h:t.dom r
  ·rw [upL_yes h];exact upL_same g k f _ _
  ·rw [upL_no h];exact ⟨rfl,rfl,rfl,rfl⟩
theorem upF_same (t:Lk) (r g k:Int):(upF t r g k).dom=t.dom∧(upF t r g k).par=t.par∧(upF t r g k).kid=t.kid∧(upF t r g k).b=t.b:=upL_same g k 4096 t r
theorem LWf.same {t t':Lk} {M:Nat} (h:LWf t M) (h1:t'.dom=t.dom) (h2:t'.par=t.par) (h3:t'.kid=t.kid):LWf t' M:=by
 obtain ⟨k1,k2,k3⟩:=h;exact ⟨by rw [h1,h2];exact k1,by rw [h1,h2,h3];exact k2,by rw [h1];exact k3⟩
theorem LWf.up {t:Lk} {M:Nat} (h:LWf t M) (r g k:Int):LWf (upF t r g k) M:=h.same (upF_same t r g k).1 (upF_same t r g k).2.1 (upF_same t r g k).2.2.1
noncomputable def lboost (bo y:Int) (t:Lk):Lk:=if t.b=y then t else { upF (upF t t.b 0 bo) y bo 0 with b:=y }
section
variable {w w':World} {I:Ids} {σ:St} {J:LIds} {t:Lk} {M:Nat}
theorem LkAt.setb {p:Nat} (h:LkAt w J p t) (y:Int):LkAt (w.setCell ⟨J.q,2,none⟩ (.int .u64 y)) J p { t with b:=y }:=by
 have hg:=gset w J.q 2 (.int .u64 y);have hc:Chg (fun i=>i=J.q) w (w.setCell ⟨J.q,2,none⟩ (.int .u64 y)):=Chg.one hg rfl;obtain ⟨n,js,m1,m2⟩:=h.map;refine ⟨?_,⟨n,js,m1.kept hg (fun e=>h.ne (Option.some.inj e).symm),m2⟩,h.dom,fun r a ha=>?_,fun i hi=>⟨Nat.lt_of_lt_of_le (h.lokb i hi).1 hg.size,(h.lokb i hi).2⟩,h.ne,h.z,h.u⟩
 ·have h1:=Blk.set h.blk 2 (.int .u64 y)
  simpa using h1
 ·obtain ⟨k0,v,k1,k2,k3⟩:=h.node r a ha;exact ⟨k0,v,hc.blk (q:=a) k1 (h.lokb a k0).2.1,rowChg k2 hc (fun k hk=>(h.lokb k (k3.1 k hk)).2.1),k3⟩
set_option maxHeartbeats 4000000 in
theorem boostl_calls (h:StoreAt w I σ) (hm:MayBe σ.bs σ.S σ.B) (hbo:inU σ.boosted) (ha:LkAt w J I.p t) (hw:LWf t M) (hM:M≤4000) (htb:inU t.b) (hx : ∀ i,LOwn J i→I.ex i) :
  Calls Tryz.prog 170 #[.pointer (some ⟨J.q,0,none⟩)] w fun e w'=>e=.returned (.tuple #[])∧LkAt w' J I.p (lboost (boostF σ.bs σ.S σ.B) σ.boosted t)∧StoreAt w' I σ∧Chg (LOwn J) w w':=by
 have HH:=lh h;have HA:=lh ha;obtain ⟨R,hR⟩ : ∃ R,R=lboost (boostF σ.bs σ.S σ.B) σ.boosted t:=⟨_,rfl⟩;rw [← hR];unfold lboost at hR;have HX:=lh hx;have HW:=lh hw;have HM:=lh hm;have HR:=lh hR;clear hx hw hm hR;clear h ha;go_enter Tryz.func170,Tryz.ntmps170
 go_upto_region 0 with (fail)
 obtain ⟨tb,htb2⟩ : ∃ tb,tb=t.b:=⟨_,rfl⟩;obtain ⟨sb,hsb⟩ : ∃ sb,sb=σ.boosted:=⟨_,rfl⟩;have TK:=lh fun w (hSw:(fun wr=>StoreAt wr I σ∧LkAt wr J I.p t∧wr.cell? ⟨J.q,2,none⟩=some (.int .u64 tb)∧wr.cell? ⟨I.p,6,none⟩=some (.int .u64 sb)) w)=>And.intro (show w.cell? ⟨J.q,0,none⟩=some (.pointer (some ⟨I.p,0,none⟩)) from hSw.2.1.blk.at 0) <| And.intro hSw.2.2.1 <| hSw.2.2.2
 refine wp_region_late (fun wr=>StoreAt wr I σ∧LkAt wr J I.p t∧wr.cell? ⟨J.q,2,none⟩=some (.int .u64 tb)∧wr.cell? ⟨I.p,6,none⟩=some (.int .u64 sb)) [] (by as_aux_lemma=>kernel_rfl) ?_;have hgd:=gdrew (gR w none);have HG:=lh (Chg.of (S:=LOwn J) hgd);have hS:(fun wr=>StoreAt wr I σ∧LkAt wr J I.p t∧wr.cell? ⟨J.q,2,none⟩=some (.int .u64 tb)∧wr.cell? ⟨I.p,6,none⟩=some (.int .u64 sb)) w.drew:=by
  rw [htb2,hsb];exact ⟨HH.out.g hgd,HA.out.g hgd,(HA.out.g hgd).blk.at 2,(HH.out.g hgd).s6⟩
 have HT:=lh htb2;have HS:=lh hsb;clear hgd HH HA htb2 hsb;generalize w.drew=w2 at HG hS ⊢;refine pM 0 ?_;simp only [zz];refine pM 1 ?_;simp only [zz];refine pM 2 ?_;simp only [zz];refine pM 4 ?_;simp only [zz];refine pM 5 ?_;simp only [zz];refine pM 6 ?_;simp only [zz];refine tM 3 ?_;simp only [zz];refine tM 7 ?_;simp only [zz];refine pM 8 ?_;simp only [zz];refine pM 9 ?_;simp only [zz];refine tM 10 ?_;simp only [zz];refine pM 11 ?_;simp only [zz];refine dM ?_ _;have hst:=hS.1;have hla:=hS.2.1;clear hS;have HH:=lh hst;have HA:=lh hla;clear hst hla;have hr:=HR.out;rw [← HT.out,← HS.out] at hr;replace HR:=lh hr;clear hr;by_cases hq:tb=sb
 ·have hr:=HR.out;rw [if_pos hq] at hr;replace HR:=lh hr;clear hr;have hne:(tb != sb)=false:=by simp [hq]
  clear hq;go_wp2
  go_end0
  exact ⟨rfl,by rw [HR.out];exact HA.out,HH.out,HG.out⟩
 ·have hr:=HR.out;rw [if_neg hq] at hr;replace HR:=lh hr;clear hr;have hne:(tb != sb)=true:=by simp [hq]
  clear hq;have a0:w2.cell? ⟨J.q,0,none⟩=some (.pointer (some ⟨I.p,0,none⟩)):=HA.out.blk.at 0;have e0:=HH.out.s0;have e1:=HH.out.s1;have e2:=HH.out.s2;go_wp2_with fail
  refine (boost_calls HH.out.bal rfl HM.out).mono ?_;rintro e w3 ⟨rfl,hg⟩;replace HG:=lh (HG.out.trans (Chg.of hg));replace HH:=lh (HH.out.g hg);replace HA:=lh (HA.out.g hg);obtain ⟨bo,hbo2⟩ : ∃ bo,bo=boostF σ.bs σ.S σ.B:=⟨_,rfl⟩;have hr:=HR.out;rw [← hbo2] at hr ⊢;replace HR:=lh hr;clear hr hbo2 hg a0 e0 e1 e2 hne;have a2:w3.cell? ⟨J.q,2,none⟩=some (.int .u64 tb):=by rw [HT.out];exact HA.out.blk.at 2
  go_wp2_with fail
  refine (up_calls (r:=tb) (g:=0) (k:=bo) HA.out HW.out hM (by rw [HT.out];exact htb)).mono ?_;rintro e w4 ⟨rfl,hla,hc⟩;have hc1:Chg (LOwn J) w3 w4:=hc.mono (fun i hi=>.inr (.inr hi));replace HG:=lh (HG.out.trans hc1);replace HH:=lh (HH.out.exch hc1 HX.out);clear HA hc hc1 a2;have HA:=lh hla;clear hla;have a0:w4.cell? ⟨J.q,0,none⟩=some (.pointer (some ⟨I.p,0,none⟩)):=HA.out.blk.at 0;have a6:w4.cell? ⟨I.p,6,none⟩=some (.int .u64 sb):=by rw [HS.out];exact HH.out.s6
  go_wp2_with fail
  refine (up_calls (r:=sb) (g:=bo) (k:=0) HA.out (HW.out.up _ _ _) hM (by rw [HS.out];exact hbo)).mono ?_;rintro e w5 ⟨rfl,hla,hc⟩;have hc1:Chg (LOwn J) w4 w5:=hc.mono (fun i hi=>.inr (.inr hi));replace HG:=lh (HG.out.trans hc1);replace HH:=lh (HH.out.exch hc1 HX.out);clear HA hc hc1 a0 a6;have HA:=lh hla;clear hla;have a0:w5.cell? ⟨J.q,0,none⟩=some (.pointer (some ⟨I.p,0,none⟩)):=HA.out.blk.at 0;have a6:w5.cell? ⟨I.p,6,none⟩=some (.int .u64 sb):=by rw [HS.out];exact HH.out.s6
  have a2:=HA.out.blk.at 2;have f2:=Blk.fr HA.out.blk 2;go_wp2
  go_end0
  have hla:=HA.out.setb sb;have hg:=gset w5 J.q 2 (.int .u64 sb);have hc1:Chg (LOwn J) w5 (w5.setCell ⟨J.q,2,none⟩ (.int .u64 sb)):=Chg.one hg (.inl rfl);exact ⟨rfl,by rw [HR.out];exact hla,HH.out.exch hc1 HX.out,HG.out.trans hc1⟩
end
inductive LDes (kid:Int→List Int):Int→Int→Prop
 | self (r:Int):LDes kid r r
 | kid {r k y:Int}:k∈kid r→LDes kid k y→LDes kid r y
theorem ldes_iff {kid:Int→List Int} {r y:Int}:LDes kid r y↔y=r∨∃ k∈kid r,LDes kid k y:=by
 constructor
 ·intro h;cases h with
  | self=>exact .inl rfl
  | kid h1 h2=>exact .inr ⟨_,h1,h2⟩
 ·rintro (rfl | ⟨k,h1,h2⟩)
  ·exact .self _
  ·exact .kid h1 h2
section
open Classical
noncomputable def adP (ad:Int→Option Nat) (P:Int→Prop):Int→Option Nat:=fun r=>if P r then ad r else none
end
theorem adP_add (ad:Int→Option Nat) (P:Int→Prop) (r:Int) {a:Nat} (h:ad r=some a):upd (lmap (adP ad P)) r (.pointer (some ⟨a,0,none⟩))=lmap (adP ad (fun y=>P y∨y=r)):=by
 funext y;unfold upd lmap adP;by_cases e:y=r
 ·subst e;simp [h]
 ·by_cases hp:P y <;> simp [e,hp]
theorem adP_congr (ad:Int→Option Nat) {P Q:Int→Prop} (h : ∀ y,P y↔Q y):adP ad P=adP ad Q:=by
 have : P=Q:=funext fun y=>propext (h y);rw [this]
def StayAt (w:World) (J:LIds) (ms:Nat) (P:Int→Prop):Prop:=
 ∃ (n:Nat) (js:List Int),RawMap Tryz.prog 27 w ms n (lmap (adP J.ad P))∧js.Nodup∧js.length=n∧∀ k∈js,(adP J.ad P k).isSome=true
theorem StayAt.imp {w:World} {J:LIds} {ms:Nat} {P Q:Int→Prop} (h:StayAt w J ms P) (hi : ∀ y,P y↔Q y):StayAt w J ms Q:=by
 unfold StayAt;rw [← adP_congr J.ad hi];exact h
theorem StayAt.g {w w':World} {J:LIds} {ms:Nat} {P:Int→Prop} (h:StayAt w J ms P) (hg:w.grownBy w' none):StayAt w' J ms P:=by
 obtain ⟨n,js,h1,h2⟩:=h;exact ⟨n,js,h1.kept hg (by simp),h2⟩
structure KCtx (w:World) (J:LIds) (p:Nat) (t:Lk) (ms b5 b6:Nat):Prop where
 la:LkAt w J p t
 c5:w.cell? ⟨b5,0,none⟩=some (.map (some ms))
 c6:w.cell? ⟨b6,0,none⟩=some (.func (.func 173) #[] #[.pointer (some ⟨b5,0,none⟩),.pointer (some ⟨b6,0,none⟩)])
 n5:b5≠ms
 n6:b6≠ms
 no:¬ LOwn J ms
 l5:b5 < w.heap.size
 l6:b6 < w.heap.size
theorem KCtx.k {w w':World} {J:LIds} {p:Nat} {t:Lk} {ms b5 b6:Nat} (h:KCtx w J p t ms b5 b6) (hg:w.grownBy w' (some ms)):KCtx w' J p t ms b5 b6:=by
 have hc:Chg (fun i=>i=ms) w w':=Chg.one hg rfl;exact ⟨h.la.chg hc (fun i hi e=>h.no (e ▸ hi)),hc.cell h.c5 h.n5,hc.cell h.c6 h.n6,h.n5,h.n6,h.no,Nat.lt_of_lt_of_le h.l5 hg.size,Nat.lt_of_lt_of_le h.l6 hg.size⟩
section
variable {J:LIds} {p:Nat} {t:Lk} {ms b5 b6 M:Nat} {rk:Int→Nat}
set_option maxHeartbeats 8000000 in
theorem keep_calls (hk : ∀ r k,t.dom r→k∈t.kid r→t.dom k∧rk r < rk k) (hM : ∀ r,t.dom r→rk r < M) {ks:List Int} (hks : ∀ r,t.dom r→r∈ks) (hkl:ks.length≤1000000) (hkid : ∀ r,(t.kid r).length≤1000000) :
  ∀ (d:Nat) (r:Int) (a:Nat) (P:Int→Prop) (w:World),J.ad r=some a→M - rk r < d→KCtx w J p t ms b5 b6→StayAt w J ms P →
  Calls Tryz.prog 173 #[.pointer (some ⟨a,0,none⟩),.pointer (some ⟨b5,0,none⟩),.pointer (some ⟨b6,0,none⟩)] w fun e w'=>e=.returned (.tuple #[])∧StayAt w' J ms (fun y=>P y∨LDes t.kid r y)∧w.grownBy w' (some ms)
 | 0,_,_,_,_,_,h,_,_=>by omega
 | d+1,r,a,P,w,har,hd,hc,hs=>by
  have IH:=lh (keep_calls hk hM hks hkl hkid d);have hdr:t.dom r:=(hc.la.dom r).1 (by rw [har];rfl);have hin:=hc.la.u r hdr;have hkd:=fun k h=>hk r k hdr h;have hMr:=hM r hdr;obtain ⟨_,v,n1,n2,_⟩:=hc.la.node r a har;have HC:=lh hc;have HS:=lh hs;have HAR:=lh har;have HN1:=lh n1;have HROW:=lh n2;have HKD:=lh hkd;clear har n1 n2 hkd;clear hc hs;go_enter Tryz.func173,Tryz.ntmps173
  go_upto_region 0 with (fail)
  have TK:=lh fun w9 (hSw:(fun (wr:World)=>w.grownBy wr none) w9)=>And.intro (cell_g (Blk.at HN1.out 0) hSw) <| cell_g HC.out.c5 hSw
  refine wp_region_late (fun (wr:World)=>w.grownBy wr none) [6] (by as_aux_lemma=>kernel_rfl) ?_;have hS:(fun (wr:World)=>w.grownBy wr none) w.drew:=gdrew (gR w none);generalize w.drew=w2 at hS ⊢;refine pM 1 ?_;simp only [zz];refine pM 2 ?_;simp only [zz];refine pM 3 ?_;simp only [zz];refine pM 5 ?_;simp only [zz];refine tM 0 ?_;simp only [zz];refine tM 4 ?_;simp only [zz];refine rM 6 fun K hK=>?_;obtain ⟨n,js,m1,m2,m3,m4⟩:=HS.out.g hS;have hn:n≤ks.length:=by
   rw [← m3];refine nodup_sub m2 (fun k hk=>hks k ((HC.out.la.dom k).1 ?_));have:=m4 k hk;unfold adP at this;split at this
   ·exact this
   ·cases this
  refine wp_store_any m1 _ _ _ 114 (.inl rfl) Tryz.underlying27 Tryz.underlying114 (by unfold maxLen;omega) hin (.pointer (some ⟨a,0,none⟩)) (by rfl) (by rfl) (by rfl) ?_;intro w3 r1 r2;rw [adP_add J.ad P r HAR.out] at r1;have hst:StayAt w3 J ms (fun y=>P y∨y=r):=by
   have hsm:(lmap (adP J.ad P) r).isSome=(adP J.ad P r).isSome:=by unfold lmap;cases adP J.ad P r <;> rfl
   rw [hsm] at r1;by_cases c:(adP J.ad P r).isSome=true
   ·rw [if_pos c] at r1;refine ⟨n,js,r1,m2,m3,fun y hy=>?_⟩;have:=m4 y hy;unfold adP at this ⊢;split at this
    ·rename_i h1;rw [if_pos (.inl h1)];exact this
    ·cases this
   ·rw [if_neg c] at r1;refine ⟨n+1,js++[r],r1,List.nodup_append.2 ⟨m2,by simp,fun x hx y hy=>by simp at hy;subst hy;exact fun e=>c (e ▸ m4 x hx)⟩,by simp [m3],fun y hy=>?_⟩;rcases List.mem_append.1 hy with hy | hy
    ·have:=m4 y hy;unfold adP at this ⊢;split at this
     ·rename_i h1;rw [if_pos (.inl h1)];exact this
     ·cases this
    ·simp at hy;subst hy;unfold adP;rw [if_pos (.inr rfl),HAR.out];rfl
  have HST:=lh hst;have HG:=lh (gtr hS r2);clear m1 m2 m3 m4 hn r1 r2 hst HS;refine hK.out _ _ (.inr (by decide)) ?_;clear hK K;refine dM ?_ _;have HC3:=lh (HC.out.k HG.out);have hnr:=HROW.out;obtain ⟨_,v',n1,n2,n3⟩:=HC3.out.la.node r a HAR.out;obtain rfl:v'=v:=by
   have h1:=Blk.at n1 2;have h2:=(Chg.one (S:=fun i=>i=ms) HG.out rfl).cell (Blk.at HN1.out 2) (fun e=>by
    have h3:=(HC.out.la.node r a HAR.out).1;exact HC.out.no (.inr (.inr (e ▸ h3))))
   rw [h2] at h1;exact (Option.some.inj h1).symm
  have d2:w3.cell? ⟨a,2,none⟩=some v':=Blk.at n1 2;have hlen:=len_any (P:=Tryz.prog) (t:=152) n2 Tryz.underlying152 3;obtain ⟨K,hK⟩ : ∃ K,K=t.kid r:=⟨_,rfl⟩;have hKl:K.length≤1000000:=by rw [hK];exact hkid r
  unfold lrow at n2;rw [← hK] at n2 hlen;have HK:=lh hK;have HROW3:=lh n2;have HLOK:=lh n3;clear n1 n2 n3 hK hnr HROW HN1;go_wp2_with fail
  go_loopw [17] (fun v17 wr=>∃ j:Nat,v17=.int .i64 (j:Int)∧j≤K.length∧StayAt wr J ms (fun y=>(P y∨y=r)∨∃ k∈K.take j,LDes t.kid k y)∧w3.grownBy wr (some ms)) (fun v17 _=>K.length - (intOf v17).toNat)
  case atStart=>exact ⟨0,rfl,by omega,HST.out.imp (fun y=>by simp),gR _ _⟩
  case round=>
   obtain ⟨j,rfl,hj,hst,hgr⟩:=hrel;have HS2:=lh hst;have HGR:=lh hgr;clear hst hgr;by_cases hlt:j < K.length
   ·obtain ⟨g,cap,rfl,_⟩:=HROW3.out.form (by omega);have hgm:g≠ms:=fun e=>HC3.out.no (.inr (.inr (e ▸ HLOK.out.1 g rfl)));obtain ⟨x,hx⟩ : ∃ x,x=K.getD j 0:=⟨_,rfl⟩;have hxm:x∈K:=by rw [hx,List.getD_eq_getElem?_getD,List.getElem?_eq_getElem hlt];exact List.getElem_mem hlt
    have htk:K.take (j+1)=K.take j++[x]:=by rw [List.take_add_one,hx,List.getD_eq_getElem?_getD,List.getElem?_eq_getElem hlt];rfl
    obtain ⟨hdx,hrx⟩:=HKD.out x (by rw [← HK.out];exact hxm);have hMx:=hM x hdx;obtain ⟨ax,hax⟩:=Option.isSome_iff_exists.1 ((HC3.out.la.dom x).2 hdx);have hc:wr.cell? ⟨g,j,none⟩=some (.pointer (some ⟨ax,0,none⟩)):=by
     have h1:=(rowChg HROW3.out (Chg.one (S:=fun i=>i=ms) HGR.out rfl) (fun k hk e=>hgm (by simpa [Value.ownBlock,e] using hk))).cells (g:=g) rfl j (lptr (J.ad x)) (by rw [List.getElem?_map,List.getElem?_eq_getElem hlt,hx,List.getD_eq_getElem?_getD,List.getElem?_eq_getElem hlt];rfl);have e:(⟨g,0,none⟩:Addr).add j=⟨g,j,none⟩:=by unfold Addr.add;split <;> simp_all
     rw [e,hax] at h1;exact h1
    have hctx:=HC3.out.k HGR.out;have c6:=hctx.c6;have hcall:=IH.out x ax _ wr hax (by omega) hctx HS2.out;have HCALL:=lh hcall;have HTK:=lh htk;clear hcall htk hax hdx hrx hMx hxm hx hctx;go_wp2_with (go_at_call 173;refine HCALL.out.mono ?_;rintro e w5 ⟨rfl,hb5,hg5⟩;have HB5:=lh hb5;have HG5:=lh (gtrans HGR.out hg5);clear hb5 hg5)
    refine ⟨⟨j+1,by simp,by omega,HB5.out.imp (fun z=>?_),HG5.out⟩,by simp [intOf];omega⟩;rw [HTK.out];simp only [List.mem_append,List.mem_singleton];constructor
    ·rintro ((h | ⟨k2,hk2,h⟩) | h)
     ·exact .inl h
     ·exact .inr ⟨k2,.inl hk2,h⟩
     ·exact .inr ⟨x,.inr rfl,h⟩
    ·rintro (h | ⟨k2,hk2 | rfl,h⟩)
     ·exact .inl (.inl h)
     ·exact .inl (.inr ⟨k2,hk2,h⟩)
     ·exact .inr h
   ·obtain rfl:j=K.length:=by omega
    go_wp2
    go_end0
    refine ⟨rfl,HS2.out.imp (fun y=>?_),gtrans HG.out HGR.out⟩;rw [List.take_length,ldes_iff (r:=r),← HK.out];constructor
    ·rintro ((h | h) | h)
     ·exact .inl h
     ·exact .inr (.inl h)
     ·exact .inr (.inr h)
    ·rintro (h | h | h)
     ·exact .inl (.inl h)
     ·exact .inl (.inr h)
     ·exact .inr h
end
end Go.Proofs.YtndfpmboanohcaaGreatDoor
