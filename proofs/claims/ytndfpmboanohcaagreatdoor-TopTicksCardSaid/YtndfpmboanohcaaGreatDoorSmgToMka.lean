/- Contract of psephoslaw21.Same at the same lines, as many as there are. -/
import Derived.Test.YtndfpmboanohcaaGreatDoorAofToRug
import Derived.Laws.IdiomStrings
namespace Go.Proofs.YtndfpmboanohcaaGreatDoor
set_option maxRecDepth 100000
open Go.RowKit Go.Maps SkipPure
theorem ByAt.conv {w:World} {v:Value} {l:List UInt8} {ok:Nat→Prop} (h:ByAt w v l ok):(convert 23 9 v).run Tryz.prog w=.ok (.string ⟨l.toArray⟩) w:=by
 obtain ⟨g,c,rfl,_,h⟩:=h;refine run_convert_bytes_back w 23 9 5 ⟨g,0,none⟩ c l Tryz.underlying23 Tryz.underlying5 Tryz.underlying9 (fun j hj=>?_);have e:(⟨g,0,none⟩:Addr).add j=⟨g,j,none⟩:=by unfold Addr.add;split <;> simp_all
 rw [e,h j hj];simp [List.getD_eq_getElem?_getD,List.getElem?_eq_getElem hj]
def LnsAt (w:World) (v:Value) (ls:List Ln) (ok:Nat→Prop):Prop:=
 ∃ a c,v=.slice a ls.length c∧∀ (j:Nat) (x:Ln),ls[j]? = some x→∃ g s,a=some ⟨g,0,none⟩∧ok g∧w.cell? ⟨g,j * 2,none⟩=some (.int .i64 x.1)∧w.cell? ⟨g,j * 2+1,none⟩=some s∧ByAt w s x.2 ok
theorem LnsAt.chg {S:Nat→Prop} {w w':World} {v:Value} {ls:List Ln} {ok ok':Nat→Prop} (h:LnsAt w v ls ok) (hc:Chg S w w') (hs : ∀ i,ok i→¬ S i) (ho : ∀ i,ok i→ok' i):LnsAt w' v ls ok':=by
 obtain ⟨a,c,h1,h2⟩:=h;refine ⟨a,c,h1,fun j x hx=>?_⟩;obtain ⟨g,s,k1,k2,k3,k4,k5⟩:=h2 j x hx;exact ⟨g,s,k1,ho g k2,hc.cell k3 (hs g k2),hc.cell k4 (hs g k2),k5.chg hc hs ho⟩
theorem lnRow_get : ∀ (es:List (Int×Value)) (j:Nat) (x:Int×Value),es[j]? = some x→(lnRow es)[j * 2]? = some (.int .i64 x.1)∧(lnRow es)[j * 2+1]? = some x.2
 | [],j,x,h=>by simp at h
 | y :: es,0,x,h=>by
  obtain rfl:y=x:=by simpa using h
  exact ⟨rfl,rfl⟩
 | y :: es,j+1,x,h=>by
  rw [List.getElem?_cons_succ] at h;obtain ⟨h1,h2⟩:=lnRow_get es j x h;have e:lnRow (y :: es)=.int .i64 y.1 :: y.2 :: lnRow es:=rfl;rw [e,show (j+1) * 2=j * 2+1+1 from by omega];exact ⟨h1,h2⟩
section
variable {X:EngD} {w0 w:World} {q:Nat} {I:Ids} {σ:St} {t:X.T} {N:Nat} {v:Value} {es:List (Int×Value)} {ls:List Ln}
theorem GW.lines (h:GW X w0 w q I σ t N v es ls):LnsAt w v ls (fun i=>w0.heap.size≤i∧i < w.heap.size):=by
 have hl:ls.length=es.length:=h.len;have hv : ∃ a c,v=.slice a es.length c∧(0 < es.length→∃ g,a=some ⟨g,0,none⟩):=own_slice h.row;obtain ⟨a,c,rfl,ha⟩:=hv;refine ⟨a,c,by rw [hl],fun j x hx=>?_⟩;have hj:j < es.length:=by rw [← hl];exact (List.getElem?_eq_some_iff.1 hx).1
 obtain ⟨g,rfl⟩:=ha (by omega);obtain ⟨y,hy⟩ : ∃ y,es[j]? = some y:=⟨_,List.getElem?_eq_getElem hj⟩;obtain ⟨l,h1,h2⟩:=h.by_ j y hy;rw [hx] at h1;obtain rfl:x=(y.1,l):=Option.some.inj h1;obtain ⟨c1,c2⟩:=lnRow_get es j y hy;have e : ∀ k,(⟨g,0,none⟩:Addr).add k=⟨g,k,none⟩:=fun k=>by unfold Addr.add;split <;> simp_all
 have d1:=h.row.cells (g:=g) rfl _ _ c1;have d2:=h.row.cells (g:=g) rfl _ _ c2;rw [e] at d1 d2;exact ⟨g,y.2,rfl,h.row.lt g rfl,d1,d2,h2.chg (S:=fun _=>False) (Chg.refl _ _) (fun _ _ h=>h) (fun i hi=>⟨hi.1,hi.2.1⟩)⟩
end
section
variable {w:World} {va vb:Value} {ls:List Ln} {oa ob:Nat→Prop}
set_option maxHeartbeats 4000000 in
theorem samel_calls (ha:LnsAt w va ls oa) (hb:LnsAt w vb ls ob) (hn:ls.length≤1000000) :
  Calls Tryz.prog 17 #[va,vb] w fun e w'=>e=.returned (.bool true)∧w.grownBy w' none:=by
 obtain ⟨a1,ca,rfl,ha⟩:=ha;obtain ⟨b1,cb,rfl,hb⟩:=hb;have HA:=lh ha;have HB:=lh hb;clear ha hb;go_enter Tryz.func17,Tryz.ntmps17
 go_wp2_with fail
 go_loopw [13] (fun v13 wr=>∃ j:Nat,v13=.int .i64 (j:Int)∧j≤ls.length∧w.grownBy wr none) (fun v13 _=>ls.length - (intOf v13).toNat)
 case atStart=>exact ⟨0,rfl,by omega,gR w none⟩
 case round=>
  obtain ⟨j,rfl,hj,hg⟩:=hrel;have HG:=lh hg;clear hg;by_cases hlt:j < ls.length
  ·obtain ⟨x,hx⟩ : ∃ x,ls[j]? = some x:=⟨_,List.getElem?_eq_getElem hlt⟩;obtain ⟨ga,sa,rfl,_,p0,p1,p2⟩:=HA.out j x hx;obtain ⟨gb,sb,rfl,_,q0,q1,q2⟩:=HB.out j x hx;have hss : ∀ W,w.grownBy W none→(W.cell? ⟨ga,j * 2,none⟩=some (.int .i64 x.1)∧W.cell? ⟨ga,j * 2+1,none⟩=some sa∧W.cell? ⟨gb,j * 2,none⟩=some (.int .i64 x.1)∧W.cell? ⟨gb,j * 2+1,none⟩=some sb) ∧
     (convert 23 9 sa).run Tryz.prog W=.ok (.string ⟨x.2.toArray⟩) W∧(convert 23 9 sb).run Tryz.prog W=.ok (.string ⟨x.2.toArray⟩) W:=fun W hW=>
    ⟨⟨cell_g p0 hW,cell_g p1 hW,cell_g q0 hW,cell_g q1 hW⟩,(p2.chg (S:=fun _=>False) (Chg.of hW) (fun _ _ h=>h) (fun _ h=>h)).conv,(q2.chg (S:=fun _=>False) (Chg.of hW) (fun _ _ h=>h) (fun _ h=>h)).conv⟩
   have HSS:=lh hss;clear hss p0 p1 p2 q0 q1 q2 hx;obtain ⟨E,l⟩:=x;simp only at HSS;go_upto_region 6 with (fail)
   refine wp_region_late (fun (wr:World)=>w.grownBy wr none) [] (by as_aux_lemma=>kernel_rfl) ?_;have hS:(fun wx:World=>w.grownBy wx none) wr.drew:=g2 HG.out (gdrew (gR wr none));generalize wr.drew=w1 at hS ⊢;refine pM 0 ?_;simp only [zz];refine pM 1 ?_;simp only [zz];refine pM 2 ?_;simp only [zz];refine pM 3 ?_;simp only [zz];refine pM 5 ?_;simp only [zz];refine pM 6 ?_;simp only [zz];refine pM 7 ?_;simp only [zz];refine pM 8 ?_;simp only [zz];refine wM 4 ?_ ?_ hS ?_;rotate_left;· intro w hSw;obtain ⟨⟨p0,p1,q0,q1⟩,v1,v2⟩:=HSS.out w hSw;go_simp;try with_reducible rfl
   simp only [zz];refine wM 9 ?_ ?_ hS ?_;rotate_left;· intro w hSw;obtain ⟨⟨p0,p1,q0,q1⟩,v1,v2⟩:=HSS.out w hSw;go_simp;try with_reducible rfl
   simp only [zz];refine pM 10 ?_;simp only [zz];refine pM 11 ?_;simp only [zz];refine pM 12 ?_;simp only [zz];refine pM 13 ?_;simp only [zz];refine pM 14 ?_;simp only [zz];refine pM 15 ?_;simp only [zz];refine pM 18 ?_;simp only [zz];refine pM 19 ?_;simp only [zz];refine pM 20 ?_;simp only [zz];refine pM 21 ?_;simp only [zz];refine wM 16 ?_ ?_ hS ?_;rotate_left;· intro w hSw;obtain ⟨⟨p0,p1,q0,q1⟩,v1,v2⟩:=HSS.out w hSw;go_simp;try with_reducible rfl
   simp only [zz];refine wM 17 ?_ ?_ hS ?_;rotate_left;· intro w hSw;obtain ⟨⟨p0,p1,q0,q1⟩,v1,v2⟩:=HSS.out w hSw;go_simp;try with_reducible rfl
   simp only [zz];refine wM 22 ?_ ?_ hS ?_;rotate_left;· intro w hSw;obtain ⟨⟨p0,p1,q0,q1⟩,v1,v2⟩:=HSS.out w hSw;go_simp;try with_reducible rfl
   simp only [zz];refine wM 23 ?_ ?_ hS ?_;rotate_left;· intro w hSw;obtain ⟨⟨p0,p1,q0,q1⟩,v1,v2⟩:=HSS.out w hSw;go_simp;try with_reducible rfl
   simp only [zz];refine pM 24 ?_;simp only [zz];refine pM 25 ?_;simp only [zz];refine dM ?_ _;have HG1:=lh hS;clear hS;go_wp2;exact ⟨⟨j+1,by simp,by omega,HG1.out⟩,by simp [intOf];omega⟩
  ·have hje:j=ls.length:=by omega
   clear hje;go_wp2;go_ret;exact ⟨rfl,HG.out⟩
end
def tkE (s:Int):Ev:=⟨0,s,0,0,0,[],[],vt0,vt0,vt0⟩
def tkC (s:Int):Array Value:=evC (tkE s) none 0 none 0 none 0 none 0 none 0
theorem vtB0:VtB vt0:=⟨by unfold inU vt0;simp,by unfold vt0;simp,by unfold vt0;simp⟩
theorem tkB (s:Int):EvB (tkE s):=⟨.inl rfl,by unfold inU tkE;simp,by unfold inU tkE;simp,by simp [tkE],by simp [tkE],by simp [tkE],by simp [tkE],vtB0,vtB0,vtB0⟩
theorem tkAt (w:World) (ok:Nat→Prop) (s:Int):EvAt w ok (tkE s) (tkC s):=
 ⟨none,0,none,0,none,0,none,0,none,0,rfl,.inl rfl,.inl rfl,fun i hi=>by simp [tkE,vt0] at hi,fun _ h=>(by cases h),fun i hi=>by simp [tkE,vt0] at hi,fun _ h=>(by cases h),fun i hi=>by simp [tkE,vt0] at hi,fun _ h=>(by cases h)⟩
theorem tick_past {σ σ':St} {s E:Int} {cs:List Cg} (hs:s≤σ.slot) (h:Applied σ (tkE s) E σ' cs):E=3∧σ'=σ∧cs=[]:=by
 have h3:tickE σ s=3:=by unfold tickE;rw [if_pos hs]
 rcases h with ⟨_,h1,h2,h4⟩ | ⟨h1,_⟩ | ⟨h1,_⟩ | ⟨h1,_⟩
 ·refine ⟨h1.trans h3,?_,h4⟩;rw [h2];unfold tickF;rw [if_neg (by show ¬ tickE σ s=0;rw [h3];omega)]
 ·exact absurd h1 (by simp [tkE])
 ·exact absurd h1 (by simp [tkE])
 ·exact absurd h1 (by simp [tkE])
structure XW (X:EngD) (w5 w:World) (q p0:Nat) (σ:St) (tr:X.T) (N:Nat):Prop where
 ex : ∃ I t,EngAt X w q I σ t N∧X.Eqv σ tr t∧I.p=p0∧∀ i,Far I i→w5.heap.size≤i
 gr:w5.grownBy w none
def LastAt (X:EngD) (σ:St) (tr:X.T) (x:Ln):Prop:=∃ ks r tl M,Rising σ.F ks∧u8s x.2=canonF σ ks r∧inU r∧X.HD σ ks tl r∧X.Rel σ M tl∧X.Eqv σ tl tr
section
variable {X:EngD} {w5 w w':World} {q p0:Nat} {σ σ1:St} {tr t1:X.T} {N:Nat}
theorem XW.g (h:XW X w5 w q p0 σ tr N) (L:EngL X) (hg:w.grownBy w' none):XW X w5 w' q p0 σ tr N:=by
 obtain ⟨⟨I,t,h1,h2⟩,h3⟩:=h;exact ⟨⟨I,t,h1.g L hg,h2⟩,g2 h3 hg⟩
theorem XW.slot (h:XW X w5 w q p0 σ tr N):w.cell? ⟨p0,5,none⟩=some (.int .i64 σ.slot):=by
 obtain ⟨⟨I,t,h1,_,rfl,_⟩,_⟩:=h;exact h1.st.s5
theorem XW.s0 (h:XW X w5 w q p0 σ tr N):0≤σ.slot∧σ.slot≤1099511627776:=by
 obtain ⟨⟨I,t,h1,_⟩,_⟩:=h;exact ⟨h1.inv.wf.s0,h1.inv.wf.s1⟩
theorem XW.tick (h:XW X w5 w q p0 σ tr N) (L:EngL X) (hN:N < 1000) {s:Int} (hs:s≤σ.slot) :
  Calls Tryz.prog X.ff #[.pointer (some ⟨q,0,none⟩),.agg (tkC s)] w fun z w'=>z=.returned (.iface 46 (.int .i64 3))∧XW X w5 w' q p0 σ tr N:=by
 obtain ⟨⟨I,t,h1,h2,h3,h4⟩,h5⟩:=h;refine (L.feed h1 hN (tkB s) (tkAt w _ s)).mono ?_;rintro z w' ⟨E,I',σ',cs',rfl,hap,hen,hp,hba,hc,hf⟩;obtain ⟨rfl,rfl,rfl⟩:=tick_past hs hap;obtain ⟨r1,r2⟩:=L.rest h1.rel;refine ⟨rfl,⟨I',X.next σ' [] t,⟨hen.st,hen.own,h1.inv,r2,h1.par⟩,L.eqt h2 r1,hp.trans h3,fun i hi=>?_⟩,((Chg.of h5).trans hc).non h4⟩;rcases hf i hi with k | k
 ·exact h4 i k
 ·have:=h5.size;omega
theorem XW.feed (h:XW X w5 w q p0 σ tr N) (L:EngL X) (hN:N < 1000) {e:Ev} {x:Ln} (hs:Stp1 X σ tr e x σ1 t1) {cells:Array Value} (he:EvAt w (fun i=>i < w5.heap.size) e cells) :
  Calls Tryz.prog X.ff #[.pointer (some ⟨q,0,none⟩),.agg cells] w fun z w'=>z=.returned (errV x.1)∧XW X w5 w' q p0 σ1 t1 (N+1):=by
 obtain ⟨⟨I,t,h1,h2,h3,h4⟩,h5⟩:=h;obtain ⟨M,cs,ks,r,s1,s2,s3,s4,s5,s6,s7,s8,s9,s10,s11⟩:=hs;refine (L.feed h1 hN s3 (he.chg (S:=fun _=>False) (Chg.refl _ _) (fun _ _ h=>h) (fun i hi=>⟨Nat.lt_of_lt_of_le hi h5.size,fun hF=>by have:=h4 i hF;omega⟩))).mono ?_;rintro z w' ⟨E,I',σ',cs',rfl,hap,hen,hp,hba,hc,hf⟩;obtain ⟨rfl,rfl,rfl⟩:=hap.det s4;have hq:=L.step h2 s2 h1.rel s1 s3 s4;refine ⟨rfl,⟨I',_,hen,L.eqt (L.eqs s10) hq,hp.trans h3,fun i hi=>?_⟩,((Chg.of h5).trans hc).non h4⟩;rcases hf i hi with k | k
 ·exact h4 i k
 ·have:=h5.size;omega
theorem Stp1.last {σ:St} {tr:X.T} {e:Ev} {x:Ln} (hs:Stp1 X σ tr e x σ1 t1):LastAt X σ1 t1 x:=by
 obtain ⟨M,cs,ks,r,s1,s2,s3,s4,s5,s6,s7,s8,s9,s10,s11⟩:=hs;exact ⟨ks,r,_,_,s6,s9,s8,s7,s5,s10⟩
end
structure YW (X:EngD) (w5 w:World) (q p0:Nat) (σ:St) (tr:X.T) (N B:Nat) (v:Value) (ls:List Ln):Prop where
 ex : ∃ I t,EngAt X w q I σ t N∧X.Eqv σ tr t∧I.p=p0∧(∀ i,Far I i→w5.heap.size≤i)∧∀ i,Far I i→i < B
 gr:w5.grownBy w none
 ln:LnsAt w v ls (fun i=>B≤i)
section
variable {X:EngD} {w5 w w':World} {q p0:Nat} {σ:St} {tr:X.T} {N B:Nat} {v:Value} {ls:List Ln}
theorem XW.behind (h:XW X w5 w q p0 σ tr N) (L:EngL X) (hg:w.grownBy w' none) (hl:LnsAt w' v ls (fun i=>w.heap.size≤i∧i < w'.heap.size)):YW X w5 w' q p0 σ tr N w.heap.size v ls:=by
 obtain ⟨⟨I,t,h1,h2,h3,h4⟩,h5⟩:=h;exact ⟨⟨I,t,h1.g L hg,h2,h3,h4,fun i hi=>h1.far i hi⟩,g2 h5 hg,hl.chg (S:=fun _=>False) (Chg.refl _ _) (fun _ _ h=>h) (fun i hi=>hi.1)⟩
theorem YW.g (h:YW X w5 w q p0 σ tr N B v ls) (L:EngL X) (hg:w.grownBy w' none):YW X w5 w' q p0 σ tr N B v ls:=by
 obtain ⟨⟨I,t,h1,h2⟩,h3,h4⟩:=h;exact ⟨⟨I,t,h1.g L hg,h2⟩,g2 h3 hg,h4.chg (S:=fun _=>False) (Chg.of hg) (fun _ _ h=>h) (fun _ h=>h)⟩
theorem YW.head (h:YW X w5 w q p0 σ tr N B v ls) (L:EngL X) (hN:N < 1000) {x:Ln} (hl:LastAt X σ tr x) :
  Calls Tryz.prog X.fh #[.pointer (some ⟨q,0,none⟩)] w fun z w'=>∃ r ks,z=.returned (.int .u64 r)∧inU r∧u8s x.2=canonF σ ks r∧YW X w5 w' q p0 σ tr N B v ls:=by
 obtain ⟨⟨I,t,h1,h2,h3,h4,h6⟩,h5,h7⟩:=h;obtain ⟨ks,r,tl,M,a1,a2,a3,a4,a5,a6⟩:=hl;refine (L.head h1 hN a1).mono ?_;rintro z w' ⟨r',t',rfl,b1,b2,b3,b4,b5⟩;obtain rfl:=L.uniq (L.eqt a6 h2) a5 a4 b1;exact ⟨r,ks,rfl,b2,a2,⟨I,t',b4,L.eqt h2 b3,h3,h4,h6⟩,((Chg.of h5).trans b5).non (fun i hi=>h4 i (.inr hi)),h7.chg b5 (fun i hi hF=>by have:=h6 i (.inr hF);omega) (fun _ h=>h)⟩
end
theorem EvRow.gn {w w':World} {ga:Option Addr} {evs:List Ev} (h:EvRow w w.heap.size ga evs) (hg:w.grownBy w' none):EvRow w' w'.heap.size ga evs:=by
 rcases h with h | ⟨ge,h1,h2,h3⟩
 ·exact .inl h
 ·refine .inr ⟨ge,h1,Nat.lt_of_lt_of_le h2 hg.size,fun j e he=>?_⟩;obtain ⟨cells,k1,k2⟩:=h3 j e he;exact ⟨cells,k1.chg (S:=fun _=>False) (Chg.of hg) (fun _ _ h=>h) (fun i hi=>Nat.lt_of_lt_of_le hi hg.size),fun t v hv=>cell_g (k2 t v hv) hg⟩
theorem canon_last {σ:St} {ks:List Int} {r:Int} {l:List UInt8} (h:u8s l=canonF σ ks r):64≤l.length∧((l.getD 7 0).toNat:Int)=r % 256:=by
 have h1:(u8s l).length=l.length:=by simp [u8s]
 have h2:64≤(canonF σ ks r).length:=by unfold canonF;simp [putF_len,headN]
 rw [← h,h1] at h2;refine ⟨h2,?_⟩;have h3:(canonF σ ks r)[7]? = some (byteF r 7):=rfl;rw [← h] at h3;have h4:(u8s l)[7]? = some (.int .u8 ((l.getD 7 0).toNat:Int)):=by simp [u8s,List.getElem?_eq_getElem (show 7 < l.length by omega),List.getD_eq_getElem?_getD]
 rw [h4] at h3;unfold byteF at h3
 simpa using h3
section
variable {w:World} {mp nc bn bc:Nat} {na ba:Option Addr} {s:Value}
theorem next_nil (hb:Blk w mp #[s,.slice na 0 nc,.slice ba bn bc] 92) (n:Int) :
  Calls Tryz.prog 31 #[.pointer (some ⟨mp,0,none⟩),.int .i64 n] w fun e w'=>e=.returned (.int .i64 0)∧w'=w:=by
 have c1:w.cell? ⟨mp,1,none⟩=some (.slice na 0 nc):=hb.at 1;clear hb;go_enter Tryz.func31,Tryz.ntmps31
 go_wp2;go_ret;exact ⟨rfl,rfl⟩
theorem next_cons {x:Int} {xs:List Int} {g o:Nat} (hb:Blk w mp #[s,.slice (some ⟨g,o,none⟩) (xs.length+1) nc,.slice ba bn bc] 92) (hi:Ints .u8 w (some ⟨g,o,none⟩) (x :: xs)) (hgm:g≠mp) (hx:0≤x∧x < 256) (hc:xs.length+1≤nc) (hl:nc≤9223372036854775807) {n:Int} (hn:0 < n∧n≤1000000) :
  Calls Tryz.prog 31 #[.pointer (some ⟨mp,0,none⟩),.int .i64 n] w fun e w'=>e=.returned (.int .i64 (x % n))∧∃ o',Blk w' mp #[s,.slice (some ⟨g,o',none⟩) xs.length (nc - 1),.slice ba bn bc] 92∧Ints .u8 w' (some ⟨g,o',none⟩) xs∧w.grownBy w' (some mp):=by
 have c1:w.cell? ⟨mp,1,none⟩=some (.slice (some ⟨g,o,none⟩) (xs.length+1) nc):=hb.at 1;have f1:w.frozen? ⟨mp,1,none⟩=false:=hb.fr 1;have hx1:w.cell? ⟨g,o,none⟩=some (.int .u8 x):=by
  obtain ⟨ad',e,hx0⟩:=hi 0 (by simp);cases e
  simpa [Addr.add] using hx0
 have hwx:IntKind.i64.wrap x=x:=IntWalk.i64_in _ (by omega);have HB:=lh hb;have HI:=lh hi;clear hi hb;by_cases hn1:nc=1
 ·subst hn1;have hxs:xs=[]:=List.eq_nil_of_length_eq_zero (by omega);subst hxs;go_enter Tryz.func31,Tryz.ntmps31
  go_wp2;go_ret;obtain ⟨t1,_,t3⟩:=sto1 1 (.slice (some ⟨g,o,none⟩) 0 0) HB.out;simp only [List.setIfInBounds_toArray,List.set_cons_zero,List.set_cons_succ] at t1;exact ⟨rfl,o,t1,fun i hi=>by simp at hi,t3⟩
 ·have hnz:nc - 1≠0:=by omega
  go_enter Tryz.func31,Tryz.ntmps31
  go_wp2;go_ret;obtain ⟨t1,_,t3⟩:=sto1 1 (.slice (some ⟨g,o+1,none⟩) xs.length (nc - 1)) HB.out;simp only [List.setIfInBounds_toArray,List.set_cons_zero,List.set_cons_succ] at t1;refine ⟨rfl,o+1,t1,fun i hi=>⟨_,rfl,?_⟩,t3⟩;obtain ⟨ad',e,hc'⟩:=HI.out (i+1) (by simp;omega);cases e;have h2:=t3.cell hc' (by simp [Addr.add];omega);have e1:(⟨g,o,none⟩:Addr).add (i+1)=(⟨g,o+1,none⟩:Addr).add i:=by
   unfold Addr.add;rw [if_neg (by omega)];by_cases h0:i=0
   ·subst h0;simp
   ·rw [if_neg h0];simp only [Addr.mk.injEq,and_true,true_and];omega
  rw [e1] at h2
  simpa using h2
end
def Num (w:World) (mp:Nat) (na:Option Addr) (nc:Nat) (ns:List Int):Prop:=
 ns=[]∨∃ g o,na=some ⟨g,o,none⟩∧Ints .u8 w na ns∧g≠mp∧ns.length≤nc∧nc≤9223372036854775807∧∀ x∈ns,0≤x∧x < 256
theorem Num.chg {S:Nat→Prop} {w w':World} {mp nc:Nat} {na:Option Addr} {ns:List Int} (h:Num w mp na nc ns) (hc:Chg S w w') (hs : ∀ ad,na=some ad→¬ S ad.block):Num w' mp na nc ns:=by
 rcases h with h | ⟨g,o,h1,h2,h3⟩
 ·exact .inl h
 ·exact .inr ⟨g,o,h1,h2.chg hc hs,h3⟩
def Mk (w:World) (mp p:Nat) (vb:Value) (nb:Option Nat):Prop:=
 ∃ na nc ns,Blk w mp #[.pointer (some ⟨p,0,none⟩),.slice na ns.length nc,vb] 92∧Num w mp na nc ns∧∀ ad,na=some ad→nb=some ad.block
structure Bls (w:World) (base:Nat) (vb:Value) (bl:List Int):Prop where
 row:w.ownsRow base 27 1 vb bl.length (bl.map (Value.int .u64))
 n:1≤bl.length
 n2:bl.length≤1000000
 u : ∀ x∈bl,inU x
section
variable {w w':World} {mp p base:Nat} {vb:Value} {nb:Option Nat} {bl:List Int}
theorem Mk.chg {S:Nat→Prop} (h:Mk w mp p vb nb) (hc:Chg S w w') (hm:¬ S mp) (hn : ∀ b,nb=some b→¬ S b):Mk w' mp p vb nb:=by
 obtain ⟨na,nc,ns,h1,h2,h3⟩:=h;exact ⟨na,nc,ns,hc.blk h1 hm,h2.chg hc (fun ad e=>hn _ (h3 ad e)),h3⟩
theorem Mk.g (h:Mk w mp p vb nb) (hg:w.grownBy w' none):Mk w' mp p vb nb:=h.chg (S:=fun _=>False) (Chg.of hg) (fun h=>h) (fun _ _ h=>h)
theorem Mk.lt (h:Mk w mp p vb nb):mp < w.heap.size:=by
 obtain ⟨na,nc,ns,h1,_⟩:=h;exact h1.lt
theorem Bls.g (h:Bls w base vb bl) (hg:w.grownBy w' none):Bls w' base vb bl:=⟨ownsRow_g h.row hg,h.n,h.n2,h.u⟩
theorem Bls.chg {S:Nat→Prop} (h:Bls w base vb bl) (hc:Chg S w w') (hs : ∀ k,vb.ownBlock=some k→¬ S k):Bls w' base vb bl:=⟨rowChg h.row hc hs,h.n,h.n2,h.u⟩
theorem Bls.form (h:Bls w base vb bl) : ∃ g c,vb=.slice (some ⟨g,0,none⟩) bl.length c∧Ints .u64 w (some ⟨g,0,none⟩) bl:=by
 obtain ⟨g,c,rfl,_,_⟩:=h.row.form h.n;refine ⟨g,c,rfl,fun i hi=>⟨_,rfl,?_⟩⟩;refine h.row.cells (g:=g) rfl i _ ?_;rw [List.getElem?_map,List.getElem?_eq_getElem hi];simp [List.getD_eq_getElem?_getD,List.getElem?_eq_getElem hi]
theorem Mk.ne (h:Mk w mp p vb nb) {b:Nat} {cur:Array Value} {e:TypeId} (hb:w.heap[b]? = some (.cells cur e (0,0))) (he:e≠92):b≠mp:=by
 obtain ⟨na,nc,ns,h1,_⟩:=h;rintro rfl;unfold Blk at h1;rw [h1] at hb;cases hb;exact he rfl
theorem Bls.ne (h:Bls w base vb bl) (hm:Mk w mp p vb nb) : ∀ k,vb.ownBlock=some k→¬ k=mp:=fun k hk=>by
 obtain ⟨cur,hcur⟩:=ownsRow_ty h.row hk;exact hm.ne hcur (by decide)
theorem mnext_calls (h:Mk w mp p vb nb) (hf : ∃ a n c,vb=.slice a n c) {n:Int} (hn:0 < n∧n≤1000000) :
  Calls Tryz.prog 31 #[.pointer (some ⟨mp,0,none⟩),.int .i64 n] w fun e w'=>∃ x,e=.returned (.int .i64 x)∧0≤x∧x < n∧Mk w' mp p vb nb∧w.grownBy w' (some mp):=by
 obtain ⟨na,nc,ns,h1,h2,h3⟩:=h;obtain ⟨a,m,c,rfl⟩:=hf;cases ns with
 | nil=>
  refine (next_nil h1 n).mono ?_;rintro e w' ⟨rfl,rfl⟩;exact ⟨0,rfl,by omega,by omega,⟨na,nc,[],h1,h2,h3⟩,gR _ _⟩
 | cons x xs=>
  rcases h2 with h2 | ⟨g,o,rfl,h4,h5,h6,h7,h8⟩
  ·cases h2
  ·have hx:=h8 x (by simp);refine (next_cons h1 h4 h5 hx (by simpa using h6) h7 hn).mono ?_;rintro e w' ⟨rfl,o',k1,k2,k3⟩;refine ⟨x % n,rfl,Int.emod_nonneg _ (by omega),Int.emod_lt_of_pos _ hn.1,⟨some ⟨g,o',none⟩,nc - 1,xs,k1,.inr ⟨g,o',rfl,k2,h5,?_,by omega,fun y hy=>h8 y (List.mem_cons_of_mem _ hy)⟩,fun ad e=>?_⟩,k3⟩
   ·simp only [List.length_cons] at h6;omega
   ·cases e;have h:=h3 _ rfl;exact h
theorem Mk.c0 (h:Mk w mp p vb nb):w.cell? ⟨mp,0,none⟩=some (.pointer (some ⟨p,0,none⟩)):=by
 obtain ⟨na,nc,ns,h1,_⟩:=h;exact h1.at 0
theorem Mk.c2 (h:Mk w mp p vb nb):w.cell? ⟨mp,2,none⟩=some vb:=by
 obtain ⟨na,nc,ns,h1,_⟩:=h;exact h1.at 2
set_option maxHeartbeats 4000000 in
theorem mblock_calls (h:Mk w mp p vb nb) (hb:Bls w base vb bl) :
  Calls Tryz.prog 32 #[.pointer (some ⟨mp,0,none⟩)] w fun e w'=>∃ r,e=.returned (.int .u64 r)∧inU r∧r∈bl∧Mk w' mp p vb nb∧Chg (fun i=>i=mp) w w':=by
 have hne:=hb.ne h;obtain ⟨g,c,hv,hi⟩:=hb.form;have hu:=hb.u;have hn1:=hb.n;have hn2:=hb.n2;have hgm:g≠mp:=hne g (by rw [hv];rfl);clear hne hb;subst hv;have HI:=lh hi;have HH:=lh h;have HU:=lh hu;clear h hu hi;go_enter Tryz.func32,Tryz.ntmps32
 go_wp2_with fail
 refine (mnext_calls HH.out ⟨_,_,_,rfl⟩ (n:=8) (by omega)).mono ?_;rintro e w1 ⟨x,rfl,hx0,hx1,hm,hg⟩;have hc:Chg (fun i=>i=mp) w w1:=Chg.one hg rfl;replace HI:=lh (HI.out.chg hc (fun ad e=>by cases e;exact hgm));clear HH hg;have HH:=lh hm;have HG:=lh hc;clear hm hc;go_upto_if 7 with (fail)
 by_cases h5:x < 5
 ·have d2:=HH.out.c2;obtain ⟨ad',e',hl⟩:=HI.out (bl.length - 1) (by omega);cases e';rw [add0] at hl;have hin:=HU.out (bl.getD (bl.length - 1) 0) (by rw [List.getD_eq_getElem?_getD,List.getElem?_eq_getElem (by omega)];simp);have hme:bl.getD (bl.length - 1) 0∈bl:=by rw [List.getD_eq_getElem?_getD,List.getElem?_eq_getElem (by omega)];simp
  generalize bl.getD (bl.length - 1) 0=r at hl hin hme;go_upto_region 3 with (fail)
  go_quiet (fail)
  go_wp2_with fail
  go_ret;have hgd:w1.grownBy (w1.drewN nq) none:=drewN_grown w1 nq;exact ⟨r,rfl,hin,hme,HH.out.g hgd,HG.out.trans (Chg.of hgd)⟩
 ·go_upto_region 4 with (fail)
  have TK:=lh fun w9 (hSw:(fun wr=>Mk wr mp p (.slice (some ⟨g,0,none⟩) bl.length c) nb∧Ints .u64 wr (some ⟨g,0,none⟩) bl∧Chg (fun i=>i=mp) w wr) w9)=>hSw.1.c2;refine wp_region_late (fun wr=>Mk wr mp p (.slice (some ⟨g,0,none⟩) bl.length c) nb∧Ints .u64 wr (some ⟨g,0,none⟩) bl∧Chg (fun i=>i=mp) w wr) [] (by as_aux_lemma=>kernel_rfl) ?_;have hgd:=gdrew (gR w1 none);have hS:(fun wr=>Mk wr mp p (.slice (some ⟨g,0,none⟩) bl.length c) nb∧Ints .u64 wr (some ⟨g,0,none⟩) bl∧Chg (fun i=>i=mp) w wr) w1.drew:=⟨HH.out.g hgd,HI.out.kept hgd,HG.out.trans (Chg.of hgd)⟩;clear hgd HH HI HG;generalize w1.drew=w2 at hS ⊢;refine pM 0 ?_;simp only [zz];refine pM 1 ?_;simp only [zz];refine pM 2 ?_;simp only [zz];refine pM 4 ?_;simp only [zz];refine pM 5 ?_;simp only [zz];refine pM 6 ?_;simp only [zz];refine pM 7 ?_;simp only [zz];refine tM 3 ?_;simp only [zz];refine tM 8 ?_;simp only [zz];refine pM 9 ?_;simp only [zz];refine rM 10 fun K hK=>?_;go_simp;refine (mnext_calls hS.1 ⟨_,_,_,rfl⟩ (n:=(bl.length:Int)) (by omega)).mono ?_;rintro e w3 ⟨y,rfl,hy0,hy1,hm,hg⟩;have hc:Chg (fun i=>i=mp) w2 w3:=Chg.one hg rfl;have hS2:(fun wr=>_) w3:=And.intro hm (And.intro (hS.2.1.chg hc (fun ad e=>by cases e;exact hgm)) (hS.2.2.trans hc));obtain ⟨k,rfl⟩ : ∃ k:Nat,y=(k:Int):=⟨y.toNat,by omega⟩;clear hm hg hc;refine hK.out _ _ (.inl (fun _=>hS2)) ?_;replace hS:=hS2;clear hK K hS2;try simp only [zz]
  refine pM 11 ?_;simp only [zz];refine rM 12 fun K hK=>?_;obtain ⟨ad',e',hl⟩:=hS.2.1 k (by omega);cases e';rw [add0] at hl;have hin:=HU.out (bl.getD k 0) (by rw [List.getD_eq_getElem?_getD,List.getElem?_eq_getElem (by omega)];simp);have hme:bl.getD k 0∈bl:=by rw [List.getD_eq_getElem?_getD,List.getElem?_eq_getElem (by omega)];simp
  generalize bl.getD k 0=r at hl hin hme;go_simp;have hS2:=hS;refine hK.out _ _ (.inl (fun _=>hS2)) ?_;replace hS:=hS2;clear hK K hS2;try simp only [zz]
  refine pM 13 ?_;simp only [zz];refine dM ?_ _;go_wp2_with fail
  go_ret;exact ⟨r,rfl,hin,hme,hS.1,hS.2.2⟩
end
end Go.Proofs.YtndfpmboanohcaaGreatDoor
