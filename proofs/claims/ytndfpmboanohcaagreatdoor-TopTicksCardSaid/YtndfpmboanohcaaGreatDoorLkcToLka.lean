/- Contract of (*link.Engine).cut. -/
import Derived.Test.YtndfpmboanohcaaGreatDoorLkmToLkk
namespace Go.Proofs.YtndfpmboanohcaaGreatDoor
set_option maxRecDepth 100000
open Go.RowKit Go.Maps SkipPure
def setP (t:Lk) (r x:Int):Lk:={ t with par:=fun j=>if j=r then x else t.par j }
def cutL (t:Lk) (fr:Int):Lk:={ t with dom:=LDes t.kid fr,par:=fun j=>if j=fr then 0 else t.par j }
theorem LDes.from {kid:Int→List Int} {f y:Int} (h:LDes kid f y):y=f∨∃ q,LDes kid f q∧y∈kid q:=by
 induction h with
 | self r=>exact .inl rfl
 | kid h1 h2 ih=>
  rcases ih with rfl | ⟨q,h3,h4⟩
  ·exact .inr ⟨_,.self _,h1⟩
  ·exact .inr ⟨q,.kid h1 h3,h4⟩
theorem LDes.snoc {kid:Int→List Int} {f q y:Int} (h:LDes kid f q) (hy:y∈kid q):LDes kid f y:=by
 induction h with
 | self r=>exact .kid hy (.self _)
 | kid h1 _ ih=>exact .kid h1 (ih hy)
theorem LDes.dom {t:Lk} {M:Nat} (hw:LWf t M) {f y:Int} (hf:t.dom f) (h:LDes t.kid f y):t.dom y:=by
 induction h with
 | self r=>exact hf
 | kid h1 _ ih=>exact ih (hw.kid _ _ hf h1).1
theorem LkAt.olt {w:World} {J:LIds} {p:Nat} {t:Lk} (h:LkAt w J p t) {i:Nat} (hi:LOwn J i):i < w.heap.size:=by
 rcases hi with e | e | e
 ·rw [e];exact h.blk.lt
 ·obtain ⟨_,_,m1,_⟩:=h.map;rw [e];exact m1.lt
 ·exact (h.lokb i e).1
theorem LkAt.cutted {w:World} {J:LIds} {p:Nat} {t:Lk} {M ms:Nat} {fr:Int} (h:LkAt w J p (setP t fr 0)) (hw:LWf t M) (hd:t.dom fr) (hst:StayAt w J ms (LDes t.kid fr)) (hms:¬ LOwn J ms) :
  LkAt (w.setCell ⟨J.q,1,none⟩ (.map (some ms))) { J with mb:=ms,ad:=adP J.ad (LDes t.kid fr),lok:=fun i=>J.lok i∨i=J.mb } p (cutL t fr):=by
 have hg:=gset w J.q 1 (.map (some ms));have hc:Chg (fun i=>i=J.q) w (w.setCell ⟨J.q,1,none⟩ (.map (some ms))):=Chg.one hg rfl;have hqm:J.q≠ms:=fun e=>hms (.inl e.symm);have hdd : ∀ y,LDes t.kid fr y→t.dom y:=fun y hy=>LDes.dom hw hd hy;have hin : ∀ y,LDes t.kid fr y→adP J.ad (LDes t.kid fr) y=J.ad y:=fun y hy=>by unfold adP;rw [if_pos hy]
 have hz:J.ad 0=none:=by
  cases h0:J.ad 0 with
  | none=>rfl
  | some c=>exact absurd ((h.dom 0).1 (by rw [h0];rfl)) h.z
 have hz2:adP J.ad (LDes t.kid fr) 0=none:=by unfold adP;split;exact hz;rfl
 obtain ⟨n,js,m1,m2⟩:=hst;have hml:=m1.lt;refine ⟨?_,⟨n,js,m1.kept hg (by simpa using hqm.symm),m2⟩,fun r=>?_,fun r a ha=>?_,fun i hi=>?_,hqm,fun h0=>h.z (hdd 0 h0),fun r hr=>h.u r (hdd r hr)⟩
 ·have h1:=Blk.set h.blk 1 (.map (some ms))
  simpa [cutL,setP] using h1
 ·constructor
  ·intro hs;show LDes t.kid fr r;by_cases c:LDes t.kid fr r
   ·exact c
   ·unfold adP at hs;simp only [if_neg c] at hs;cases hs
  ·intro hs;show (adP J.ad (LDes t.kid fr) r).isSome=true;rw [hin r hs];exact (h.dom r).2 (hdd r hs)
 ·have hP:LDes t.kid fr r:=by
   by_cases c:LDes t.kid fr r
   ·exact c
   ·have h2:adP J.ad (LDes t.kid fr) r=some a:=ha;unfold adP at h2;rw [if_neg c] at h2;cases h2
  have har:J.ad r=some a:=by rw [← hin r hP];exact ha
  obtain ⟨k0,v,k1,k2,k3⟩:=h.node r a har;refine ⟨.inl k0,v,?_,?_,fun b hb=>.inl (k3.1 b hb),k3.2⟩
  ·have h1:=hc.blk (q:=a) k1 (h.lokb a k0).2.1;have e:lcell { J with mb:=ms,ad:=adP J.ad (LDes t.kid fr),lok:=fun i=>J.lok i∨i=J.mb } (cutL t fr) r v=lcell J (setP t fr 0) r v:=by
    unfold lcell cutL setP;simp only;by_cases er:r=fr
    ·rw [if_pos er,hz,hz2]
    ·rw [if_neg er];have hq:LDes t.kid fr (t.par r):=by
      rcases hP.from with e | ⟨q,h3,h4⟩
      ·exact absurd e er
      ·rw [(hw.kid q r (hdd q h3) h4).2];exact h3
     rw [hin _ hq]
   rw [e];exact h1
  ·have h2:=rowChg k2 hc (fun k hk=>(h.lokb k (k3.1 k hk)).2.1);have e:lrow { J with mb:=ms,ad:=adP J.ad (LDes t.kid fr),lok:=fun i=>J.lok i∨i=J.mb } (cutL t fr) r=lrow J (setP t fr 0) r:=by
    unfold lrow cutL setP;simp only;refine List.map_congr_left (fun k hk=>?_);rw [hin k (hP.snoc hk)]
   rw [e];exact h2
 ·rcases hi with hi | hi
  ·exact ⟨Nat.lt_of_lt_of_le (h.lokb i hi).1 hg.size,(h.lokb i hi).2.1,fun e=>hms (.inr (.inr (by have e2:i=ms:=e;rw [← e2];exact hi)))⟩
  ·rw [hi];exact ⟨Nat.lt_of_lt_of_le (h.olt (.inr (.inl rfl))) hg.size,fun e=>h.ne e.symm,fun e=>hms (.inr (.inl e.symm))⟩
section
variable {w:World} {J:LIds} {p:Nat} {t:Lk} {M:Nat}
theorem LkAt.setp (h:LkAt w J p t) {r:Int} {a:Nat} (ha:J.ad r=some a):LkAt (w.setCell ⟨a,1,none⟩ (.pointer none)) J p (setP t r 0):=by
 obtain ⟨k0,v,k1,k2,k3⟩:=h.node r a ha;have hg:=gset w a 1 (.pointer none);have hz:J.ad 0=none:=by
  cases h0:J.ad 0 with
  | none=>rfl
  | some c=>exact absurd ((h.dom 0).1 (by rw [h0];rfl)) h.z
 refine h.turn ha hg ⟨k0,v,?_,?_,k3⟩ rfl rfl (fun j hj=>⟨if_neg hj,rfl,rfl⟩)
 ·have h1:=Blk.set k1 1 (.pointer none);have e:(lcell J t r v).setIfInBounds 1 (.pointer none)=lcell J (setP t r 0) r v:=by
   unfold lcell setP lptr;simp [hz]
  rw [← e];exact h1
 ·exact rowChg k2 (Chg.one (S:=fun i=>i=a) hg rfl) (fun k hk e=>h.notrow ha k2 (by rw [hk,e]))
set_option maxHeartbeats 8000000 in
theorem cutl_calls (h:LkAt w J p t) (hw:LWf t M) (hM:M≤4000) (hkid : ∀ r,(t.kid r).length≤1000000) {fr:Int} (hr:inU fr) (hd:t.dom fr) :
  Calls Tryz.prog 172 #[.pointer (some ⟨J.q,0,none⟩),.int .u64 fr] w fun e w'=>∃ J',e=.returned (.tuple #[])∧LkAt w' J' p (cutL t fr)∧J'.q=J.q∧Chg (LOwn J) w w'∧∀ i,LOwn J' i→LOwn J i∨w.heap.size≤i:=by
 obtain ⟨a,ha⟩:=Option.isSome_iff_exists.1 ((h.dom fr).2 hd);have a1:w.cell? ⟨J.q,1,none⟩=some (.map (some J.mb)):=h.blk.at 1;have hlk:=h.look hr;rw [lptr,ha] at hlk;simp only [Option.map_some] at hlk;obtain ⟨k0,v,k1,_⟩:=h.node fr a ha;have d1:w.cell? ⟨a,1,none⟩=some (lptr (J.ad (t.par fr))):=Blk.at k1 1;have f1:=Blk.fr k1 1;have h1:=h.setp ha;have hg:=gset w a 1 (.pointer none);have hc1:Chg (LOwn J) w (w.setCell ⟨a,1,none⟩ (.pointer none)):=Chg.one hg (.inr (.inr k0));have HH:=lh h1;have HC:=lh hc1;have HA:=lh ha;have HW:=lh hw;have HD:=lh hd;clear h1 hc1 ha hw hd;clear h k1 hg;go_enter Tryz.func172,Tryz.ntmps172
 go_upto_region 2 with (fail)
 clear a1 hlk d1 f1;generalize w.setCell ⟨a,1,none⟩ (.pointer none)=w1 at HH HC ⊢;have hmm:=@run_makeMap Tryz.prog;go_upto_region 4 with (fail)
 have r1:=RawMap.made Tryz.prog 27 w1;have g1:=World.grownBy_alloc w1 (Obj.map #[] 0) none;have z1:(w1.alloc (Obj.map #[] 0)).heap.size=w1.heap.size+1:=by simp
 obtain ⟨ms,hms⟩ : ∃ ms,ms=w1.heap.size:=⟨_,rfl⟩;rw [← hms] at r1 z1 ⊢;generalize w1.alloc (Obj.map #[] 0)=W2 at r1 g1 z1 ⊢;obtain ⟨⟨k1,k2⟩,kz,kg⟩:=alloc2 W2 #[.map (some ms)] #[.nilFunc] 114 288;rw [z1] at k1 k2 kz;generalize (W2.alloc (Obj.cells #[Value.map (some ms)] 114)).alloc (Obj.cells #[Value.nilFunc] 288)=W5 at k1 k2 kz kg ⊢;have hcl:W5.cell? ⟨ms+1+1,0,none⟩=some .nilFunc:=k2.c1;have hfz:W5.frozen? ⟨ms+1+1,0,none⟩=false:=k2.f1;have hst:(store ⟨ms+1+1,0,none⟩ (.func (.func 173) #[] #[.pointer (some ⟨ms+1,0,none⟩),.pointer (some ⟨ms+1+1,0,none⟩)])).run Tryz.prog W5=.ok () (W5.setCell ⟨ms+1+1,0,none⟩ (.func (.func 173) #[] #[.pointer (some ⟨ms+1,0,none⟩),.pointer (some ⟨ms+1+1,0,none⟩)])):=by
  rw [run_store _ _ _ _ _ rfl,hcl,hfz];rfl
 have HMS:=lh hms;clear hms;go_upto_region 5 with (fail)
 refine nsC1 k2 ?_;intro W6 k3 kz6 kg6;simp only [List.setIfInBounds_toArray,List.set_cons_zero] at k3;have hsz:=HC.out.size;have hgw:w1.grownBy W6 none:=gnew (g2 g1 kg) kg6 (by rw [← HMS.out];omega);have hla:=HH.out.g hgw;have hno:¬ LOwn J ms:=fun hi=>by have:=HH.out.olt hi;rw [← HMS.out] at this;omega
 have hk1:=k1.kept kg6 (by simp);have hctx:KCtx W6 J p (setP t fr 0) ms (ms+1) (ms+1+1):=⟨hla,hk1.at 0,k3.at 0,by omega,by omega,hno,by omega,by omega⟩;have hs0:StayAt W6 J ms (fun _=>False):=by
  have e:lmap (adP J.ad (fun _=>False))=fun _=>none:=by funext y;unfold lmap adP;simp
  refine ⟨0,[],?_,List.nodup_nil,rfl,by simp⟩;rw [e];exact ((r1.kept kg (by simp)).kept kg6 (by simp;omega))
 obtain ⟨rk,hrk⟩:=HW.out.rk;obtain ⟨ks,hkl,hks⟩:=HW.out.ks;have hkk : ∀ r k,(setP t fr 0).dom r→k∈(setP t fr 0).kid r→(setP t fr 0).dom k∧rk r < rk k:=fun r k hdr hkr=>by
  obtain ⟨h1,h2⟩:=HW.out.kid r k hdr hkr;refine ⟨h1,?_⟩;rcases (hrk k h1).2 with h3 | ⟨_,h3⟩
  ·rw [h2] at h3;exact absurd (h3 ▸ hdr) hla.z
  ·rw [h2] at h3;exact h3
 have hcall:=keep_calls (rk:=rk) (M:=M) hkk (fun r hr=>(hrk r hr).1) hks (by omega) hkid (M+1) fr a (fun _=>False) W6 HA.out (by omega) hctx hs0;have HCALL:=lh hcall;have HCTX:=lh hctx;have HGW:=lh hgw;have HNO:=lh hno;have c6:=k3.c1;clear hcall hctx hgw hla hno hk1 hs0 hrk hks hkl hkk r1 g1 k1 k2 kg hcl hfz hst k3 kg6 HH;go_wp2_with (go_at_call 173;refine HCALL.out.mono ?_;rintro e w7 ⟨rfl,hb7,hg7⟩;have HB7:=lh hb7;have HG7:=lh hg7;have HC7:=lh (HCTX.out.k hg7);clear hb7 hg7;have c5:=HC7.out.c5;have q1:=HC7.out.la.blk.at 1;have fq:=Blk.fr HC7.out.la.blk 1)
 go_end0
 have hst7:StayAt w7 J ms (LDes t.kid fr):=HB7.out.imp (fun y=>by simp [setP]);have hfin:=HC7.out.la.cutted HW.out HD.out hst7 HNO.out;have hgq:=gset w7 J.q 1 (.map (some ms));have hw1:w1.grownBy w7 none:=gnew HGW.out HG7.out (by rw [← HMS.out];omega);refine ⟨_,rfl,hfin,rfl,(HC.out.trans (Chg.of hw1)).trans (Chg.one hgq (.inl rfl)),fun i hi=>?_⟩;have hm0:w.heap.size≤ms:=by rw [HMS.out];exact hsz
 rcases hi with e | e | e | e
 ·exact .inl (.inl e)
 ·have e2:i=ms:=e;right;omega
 ·exact .inl (.inr (.inr e))
 ·exact .inl (.inr (.inl e))
end
def addL (t:Lk) (r q:Int):Lk:=
 { t with dom:=fun y=>t.dom y∨y=r,par:=fun y=>if y=r then q else t.par y,kid:=fun y=>if y=r then [] else if y=q then t.kid q++[r] else t.kid y,wt:=fun y=>if y=r then 0 else t.wt y }
section
variable {w w':World} {J:LIds} {p:Nat} {t:Lk} {M:Nat}
theorem LkAt.rowsep (h:LkAt w J p t) (hw:LWf t M) {j q:Int} {aj aq:Nat} (hj:J.ad j=some aj) (hq:J.ad q=some aq) {vj vq:Value} (rj:w.ownsRow 0 151 1 vj (t.kid j).length (lrow J t j)) (rq:w.ownsRow 0 151 1 vq (t.kid q).length (lrow J t q))
  (ej:t.kid j=[]→vj.ownBlock=none) (eq:t.kid q=[]→vq.ownBlock=none) {b:Nat} (hbj:vj.ownBlock=some b) (hbq:vq.ownBlock=some b):j=q:=by
 have hdj:t.dom j:=(h.dom j).1 (by rw [hj];rfl);have hdq:t.dom q:=(h.dom q).1 (by rw [hq];rfl);cases hkj:t.kid j with
 | nil=>rw [ej hkj] at hbj;cases hbj
 | cons x xs=>
  cases hkq:t.kid q with
  | nil=>rw [eq hkq] at hbq;cases hbq
  | cons y ys=>
   have c1:=rj.cells hbj 0 (lptr (J.ad x)) (by unfold lrow;rw [hkj];rfl);have c2:=rq.cells hbq 0 (lptr (J.ad y)) (by unfold lrow;rw [hkq];rfl);rw [c1] at c2;have e:=Option.some.inj c2;obtain ⟨k1,k2⟩:=hw.kid j x hdj (by rw [hkj];simp);obtain ⟨l1,l2⟩:=hw.kid q y hdq (by rw [hkq];simp);obtain ⟨ax,hax⟩:=Option.isSome_iff_exists.1 ((h.dom x).2 k1);obtain ⟨ay,hay⟩:=Option.isSome_iff_exists.1 ((h.dom y).2 l1);rw [lptr,lptr,hax,hay] at e;have e2:ax=ay:=by simpa using e
   have e3:=h.inj hax (by rw [hay,e2]);rw [← k2,← l2,e3]
theorem LkAt.added (h:LkAt w J p t) (hw:LWf t M) {q r:Int} {ap an:Nat} {v v':Value} (hq:J.ad q=some ap) (hnr:¬ t.dom r) (hr:inU r) (hr0:r≠0) (hv:w.cell? ⟨ap,2,none⟩=some v) (hsz:w.heap.size≤an)
  (hc:Chg (fun i=>i=ap∨i=J.mb∨v.ownBlock=some i) w w') (hbn:Blk w' an #[.int .u64 r,.pointer (some ⟨ap,0,none⟩),.slice none 0 0,.int .u64 0] 154)
  (hbp:Blk w' ap #[.int .u64 q,lptr (J.ad (t.par q)),v',.int .u64 (t.wt q)] 154) (hrow:w'.ownsRow 0 151 1 v' ((t.kid q).length+1) (lrow J t q++[.pointer (some ⟨an,0,none⟩)]))
  (hvb : ∀ b,v'.ownBlock=some b→v.ownBlock=some b∨w.heap.size≤b)
  (hmap : ∃ (n:Nat) (js:List Int),RawMap Tryz.prog 27 w' J.mb (n+1) (upd (lmap J.ad) r (.pointer (some ⟨an,0,none⟩)))∧js.Nodup∧js.length=n∧∀ k∈js,(J.ad k).isSome=true) :
  LkAt w' { J with ad:=fun y=>if y=r then some an else J.ad y,lok:=fun i=>J.lok i∨(w.heap.size≤i∧i < w'.heap.size) } p (addL t r q):=by
 have hdq:t.dom q:=(h.dom q).1 (by rw [hq];rfl);have hqr:q≠r:=fun e=>hnr (e ▸ hdq);obtain ⟨k0,v0,k1,k2,k3⟩:=h.node q ap hq;obtain rfl:v0=v:=by
  have h1:=Blk.at k1 2;rw [hv] at h1;exact (Option.some.inj h1).symm
 have hlap:=h.lokb ap k0;have hpar : ∀ j,t.dom j→t.par j≠r:=fun j hj e=>by
  obtain ⟨rk,hrk⟩:=hw.rk;rcases (hrk j hj).2 with h1 | ⟨h1,_⟩
  ·exact hr0 (by rw [← e,h1])
  ·exact hnr (e ▸ h1)
 have hkr : ∀ j k,t.dom j→k∈t.kid j→k≠r:=fun j k hj hk e=>hnr (e ▸ (hw.kid j k hj hk).1);have hqs:J.q < w.heap.size:=h.blk.lt;have hms:J.mb < w.heap.size:=h.olt (.inr (.inl rfl));have hqn:¬ (J.q=ap∨J.q=J.mb∨v0.ownBlock=some J.q):=fun e=>by
  rcases e with e | e | e
  ·exact hlap.2.1 e.symm
  ·exact h.ne e
  ·exact (h.lokb _ (k3.1 _ e)).2.1 rfl
 have hanw:=hbn.lt;obtain ⟨n,js,m1,m2,m3,m4⟩:=hmap;have hmm:upd (lmap J.ad) r (.pointer (some ⟨an,0,none⟩))=lmap (fun y=>if y=r then some an else J.ad y):=by
  funext y;unfold upd lmap;by_cases e:y=r <;> simp [e]
 rw [hmm] at m1;have hadr:J.ad r=none:=by
  cases h0:J.ad r with
  | none=>rfl
  | some c=>exact absurd ((h.dom r).1 (by rw [h0];rfl)) hnr
 refine ⟨hc.blk h.blk hqn,⟨n+1,js++[r],m1,List.nodup_append.2 ⟨m2,by simp,fun x hx y hy=>by simp at hy;subst hy;exact fun e=>by have:=m4 x hx;rw [e,hadr] at this;cases this⟩,by simp [m3],fun k hk=>?_⟩,fun y=>?_,fun j a ha=>?_,fun i hi=>?_,h.ne,fun h0=>?_,fun y hy=>?_⟩
 ·rcases List.mem_append.1 hk with hk | hk
  ·show (if k=r then some an else J.ad k).isSome=true;split
   ·rfl
   ·exact m4 k hk
  ·simp at hk;subst hk;simp
 ·show (if y=r then some an else J.ad y).isSome=true↔(t.dom y∨y=r);by_cases e:y=r
  ·rw [if_pos e];exact ⟨fun _=>.inr e,fun _=>rfl⟩
  ·rw [if_neg e,h.dom y];exact ⟨.inl,fun hh=>hh.elim id (fun hh=>absurd hh e)⟩
 ·have ha2:(if j=r then some an else J.ad j)=some a:=ha;by_cases ejr:j=r
  ·rw [if_pos ejr] at ha2;obtain rfl:=Option.some.inj ha2;subst ejr;refine ⟨.inr ⟨hsz,hanw⟩,.slice none 0 0,?_,?_,fun b hb=>(by cases hb),fun _=>rfl⟩
   ·have e:lcell { J with ad:=fun y=>if y=j then some an else J.ad y,lok:=fun i=>J.lok i∨(w.heap.size≤i∧i < w'.heap.size) } (addL t j q) j (.slice none 0 0)=#[.int .u64 j,.pointer (some ⟨ap,0,none⟩),.slice none 0 0,.int .u64 0]:=by
     unfold lcell addL lptr;simp [hqr,hq]
    rw [e];exact hbn
   ·have e1:(addL t j q).kid j=[]:=by unfold addL;simp
    rw [lrow,e1];exact World.ownsRow_nil _ _ _ _
  ·rw [if_neg ejr] at ha2;have hdj:t.dom j:=(h.dom j).1 (by rw [ha2];rfl);have hpj:=hpar j hdj;by_cases ejq:j=q
   ·subst ejq;rw [hq] at ha2;obtain rfl:=Option.some.inj ha2;refine ⟨.inl k0,v',?_,?_,fun b hb=>?_,fun e=>?_⟩
    ·have e:lcell { J with ad:=fun y=>if y=r then some an else J.ad y,lok:=fun i=>J.lok i∨(w.heap.size≤i∧i < w'.heap.size) } (addL t r j) j v'=#[.int .u64 j,lptr (J.ad (t.par j)),v',.int .u64 (t.wt j)]:=by
      unfold lcell addL;simp [ejr,hpj]
     rw [e];exact hbp
    ·have e1:(addL t r j).kid j=t.kid j++[r]:=by unfold addL;simp [ejr]
     have e2:lrow { J with ad:=fun y=>if y=r then some an else J.ad y,lok:=fun i=>J.lok i∨(w.heap.size≤i∧i < w'.heap.size) } (addL t r j) j=lrow J t j++[.pointer (some ⟨an,0,none⟩)]:=by
      unfold lrow;rw [e1,List.map_append]
      congr 1
      ·exact List.map_congr_left (fun k hk=>by simp [hkr j k hdj hk])
      ·simp [lptr]
     rw [e2,e1]
     simpa using hrow
    ·rcases hvb b hb with h1 | h1
     ·exact .inl (k3.1 b h1)
     ·exact .inr ⟨h1,(hrow.lt b hb).2⟩
    ·have e1:(addL t r j).kid j=t.kid j++[r]:=by unfold addL;simp [ejr]
     rw [e1] at e;simp at e
   ·obtain ⟨l0,vj,l1,l2,l3⟩:=h.node j a ha2;have hlj:=h.lokb a l0;have haj:¬ (a=ap∨a=J.mb∨v0.ownBlock=some a):=fun e=>by
     rcases e with e | e | e
     ·exact ejq (h.inj ha2 (by rw [hq,e]))
     ·exact hlj.2.2 e
     ·exact h.notrow ha2 k2 e
    have hrj : ∀ b,vj.ownBlock=some b→¬ (b=ap∨b=J.mb∨v0.ownBlock=some b):=fun b hb e=>by
     rcases e with e | e | e
     ·exact h.notrow hq l2 (by rw [hb,e])
     ·exact (h.lokb b (l3.1 b hb)).2.2 e
     ·exact ejq (h.rowsep hw ha2 hq l2 k2 l3.2 k3.2 hb e)
    have e1:(addL t r q).kid j=t.kid j:=by unfold addL;simp [ejr,ejq]
    refine ⟨.inl l0,vj,?_,?_,fun b hb=>.inl (l3.1 b hb),by rw [e1];exact l3.2⟩
    ·have e:lcell { J with ad:=fun y=>if y=r then some an else J.ad y,lok:=fun i=>J.lok i∨(w.heap.size≤i∧i < w'.heap.size) } (addL t r q) j vj=lcell J t j vj:=by
      unfold lcell addL;simp [ejr,hpj]
     rw [e];exact hc.blk (q:=a) l1 haj
    ·have e2:lrow { J with ad:=fun y=>if y=r then some an else J.ad y,lok:=fun i=>J.lok i∨(w.heap.size≤i∧i < w'.heap.size) } (addL t r q) j=lrow J t j:=by
      unfold lrow;rw [e1];exact List.map_congr_left (fun k hk=>by simp [hkr j k hdj hk])
     rw [e2,e1];exact rowChg l2 hc (fun b hb=>hrj b hb)
 ·rcases hi with hi | hi
  ·exact ⟨Nat.lt_of_lt_of_le (h.lokb i hi).1 hc.size,(h.lokb i hi).2⟩
  ·exact ⟨hi.2,by show i≠J.q;omega,by show i≠J.mb;omega⟩
 ·rcases h0 with h0 | h0
  ·exact h.z h0
  ·exact hr0 h0.symm
 ·rcases hy with hy | hy
  ·exact h.u y hy
  ·rw [hy];exact hr
end
end Go.Proofs.YtndfpmboanohcaaGreatDoor
