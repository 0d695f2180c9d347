/- Contracts of package ledger: the ends of epochs, the chain's closure, point, Pull, Advance, Open. -/
import Derived.Test.YtndfpmboanohcaaGreatDoorBadToBth
namespace Go.Proofs.YtndfpmboanohcaaGreatDoor
set_option maxRecDepth 100000
open Go.RowKit Go.Maps SkipPure
theorem len_own {P:Program} {t e:TypeId} {w:World} {base size n:Nat} {v:Value} {xs:List Value} (h:w.ownsRow base e size v n xs) (ht:P.underlying t=some (.slice e)) (ty:TypeId):(Builtin.len_ #[t] ty #[v]).run P w=.ok (.int .i64 (n:Int)) w:=by
 rcases h.2 with ⟨hv,hn⟩ | ⟨g,cap,cur,hv,_⟩
 ·subst hv hn;simp [Builtin.len_,run_underlying ht,goInt,Result.andThen]
 ·subst hv;simp [Builtin.len_,run_underlying ht,goInt,Result.andThen]
theorem Ints.g {k:IntKind} {w w':World} {a:Option Addr} {xs:List Int} (h:Ints k w a xs) (hg:w.grownBy w' none):Ints k w' a xs:=h.kept hg
def endsF (a b:Int):List Int:=(List.range (min (b - a).toNat 4096)).map fun i:Nat=>a+(i:Int)
theorem endsF_len (a b:Int):(endsF a b).length=min (b - a).toNat 4096:=by simp [endsF]
theorem endsF_take (a b:Int) (j:Nat) (h:j < min (b - a).toNat 4096):(endsF a b).take (j+1)=(endsF a b).take j++[a+(j:Int)]:=by
 rw [List.take_add_one]
 congr 1
 unfold endsF;simp only [List.getElem?_map,List.getElem?_range h];rfl
theorem endsF_getD (a b:Int) (j:Nat) (h:j < min (b - a).toNat 4096):(endsF a b).getD j 0=a+(j:Int):=by
 unfold endsF;simp only [List.getD_eq_getElem?_getD,List.getElem?_map,List.getElem?_range h];rfl
theorem ends_calls (fr tt S:Int) (w:World) (hf:fr≤4611686018427387904) (ht:tt≤4611686018427387904) (hS:S≤1000000) :
  Calls Tryz.prog 68 #[.int .i64 fr,.int .i64 tt,.int .i64 S] w fun e w'=>∃ v,e=.returned v∧w'.ownsRow w.heap.size 3 1 v (endsF (eOf fr S) (eOf tt S)).length ((endsF (eOf fr S) (eOf tt S)).map encI)∧w.grownBy w' none:=by
 obtain ⟨i0,hi⟩:=elem_i64;have HI:=lh hi;have ha0:=eOf_nonneg fr S;have ha1:=eOf_le fr S;have hb0:=eOf_nonneg tt S;have hb1:=eOf_le tt S;have hE1:=eof_calls fr S;have hE2:=eof_calls tt S;obtain ⟨a,hae⟩ : ∃ a,a=eOf fr S:=⟨_,rfl⟩;obtain ⟨b,hbe⟩ : ∃ b,b=eOf tt S:=⟨_,rfl⟩;rw [← hae] at ha0 ha1 hE1 ⊢;rw [← hbe] at hb0 hb1 hE2 ⊢;have HE1:=lh hE1;have HE2:=lh hE2;clear hi hae hbe hE1 hE2;have ha2:a≤4611686018427387904:=by omega
 have hb2:b≤4611686018427387904:=by omega
 clear ha1 hb1;go_enter Tryz.func68,Tryz.ntmps68
 go_wp2_with fail
 refine (HE1.out _ (by omega) hS).mono ?_;rintro e w' ⟨rfl,rfl⟩;go_wp2_with fail
 go_loopw [8,7] (fun v8 v7 wr=>∃ j:Nat,v8=.int .i64 (a+j:Int)∧j≤min (b - a).toNat 4096∧wr.ownsRow w.heap.size 3 1 v7 j (((endsF a b).take j).map encI)∧w.grownBy wr none) (fun v8 _ _=>(a+4097 - intOf v8).toNat)
 case atStart=>exact ⟨0,by simp,by omega,World.ownsRow_nil _ _ _ _,gR _ _⟩
 case round=>
  obtain ⟨j,rfl,hj,ho,hg⟩:=hrel;have HO:=lh ho;have HG:=lh hg;have hvl:(intOf (.int .i64 (a+j)))=a+j:=rfl;obtain ⟨d,hd⟩ : ∃ d:Int,d=a+j:=⟨_,rfl⟩;rw [← hd] at hvl ⊢;have HD:=lh hd;have hd0:0≤d:=by omega
  have hd1:d≤4611686018427387904:=by omega
  have hjl:j≤4096:=by omega
  clear ho hg hvl;have hlen:=len_own (P:=Tryz.prog) (t:=62) HO.out Tryz.underlying62 3;by_cases h1:d < b
  ·by_cases h2:j < 4096
   ·have g1:decide (d < b)=true:=decide_eq_true h1;have g2':decide ((j:Int) < 4096)=true:=decide_eq_true (by omega);have hk:=endsF_take a b j (by omega);have HK:=lh hk;clear hd hk;go_wp2_with (first
     | (go_at_call 47;refine (HE2.out _ (by omega) hS).mono ?_;rintro e w' ⟨rfl,rfl⟩)
     | (at_builtin;refine wpList_push rfl _ _ 62 rfl w.heap.size 3 i0 (.int .i64 0) 1 8 Tryz.underlying62 HI.out rfl (by decide) _ j (((endsF a b).take j).map encI) rfl HO.out rfl rfl (by simp [Value.oneCell']) (by unfold maxLen;omega) (by omega) HG.out.size ?_;intro v6 w6 h6 hg6;have H6:=lh h6;have HG6:=lh (own_grown HG.out HO.out (Nat.le_refl _) hg6);clear h6 hg6))
    refine ⟨⟨j+1,by rw [HD.out];simp [Int.add_assoc],by have:=HD.out;omega,?_,HG6.out⟩,by have:=HD.out;simp [intOf];omega⟩;rw [HK.out,List.map_append];have:=H6.out;rw [HD.out] at this;exact this
   ·have g1:decide (d < b)=true:=decide_eq_true h1;have g2':decide ((j:Int) < 4096)=false:=decide_eq_false (by omega);have hje:j=(endsF a b).length:=by rw [endsF_len];omega
    have HJ:=lh hje;clear hd hje;go_wp2_with (first
     | (go_at_call 47;refine (HE2.out _ (by omega) hS).mono ?_;rintro e w' ⟨rfl,rfl⟩))
    go_ret;have ho:=HO.out;rw [HJ.out,List.take_length] at ho;exact ⟨_,rfl,ho,HG.out⟩
  ·have g1:decide (d < b)=false:=decide_eq_false h1;have hje:j=(endsF a b).length:=by rw [endsF_len];omega
   have HJ:=lh hje;clear hd hje;go_wp2_with (first
    | (go_at_call 47;refine (HE2.out _ (by omega) hS).mono ?_;rintro e w' ⟨rfl,rfl⟩))
   go_ret;have ho:=HO.out;rw [HJ.out,List.take_length] at ho;exact ⟨_,rfl,ho,HG.out⟩
structure ChainAt (w:World) (q1 q2 p tp tb n:Nat) (f:Int) (F:Int→Option (Int×Int×Int)) (root:Int):Prop where
 b1:Blk w q1 #[.pointer (some ⟨p,0,none⟩)] 52
 b2:Blk w q2 #[.int .u64 root] 27
 c3:w.cell? ⟨p,3,none⟩=some (.pointer (some ⟨tp,0,none⟩))
 tree:TreeAt w tp tb n f F
theorem ChainAt.g {w w':World} {q1 q2 p tp tb n:Nat} {f:Int} {F:Int→Option (Int×Int×Int)} {root:Int} (h:ChainAt w q1 q2 p tp tb n f F root) (hg:w.grownBy w' none):ChainAt w' q1 q2 p tp tb n f F root:=
 ⟨h.b1.g hg,h.b2.g hg,cell_g h.c3 hg,h.tree.kept hg (by simp)⟩
def chainV (q1 q2:Nat):Value:=.func (.func 67) #[] #[.pointer (some ⟨q1,0,none⟩),.pointer (some ⟨q2,0,none⟩)]
theorem chain_calls {w:World} {p tp tb n:Nat} {f:Int} {F:Int→Option (Int×Int×Int)} (c3:w.cell? ⟨p,3,none⟩=some (.pointer (some ⟨tp,0,none⟩))) (ht:TreeAt w tp tb n f F) (root:Int) :
  Calls Tryz.prog 51 #[.pointer (some ⟨p,0,none⟩),.int .u64 root] w fun e w'=>∃ q1 q2,e=.returned (chainV q1 q2)∧ChainAt w' q1 q2 p tp tb n f F root∧w.grownBy w' none:=by
 have HC:=lh c3;have HT:=lh ht;clear c3 ht;go_enter Tryz.func51,Tryz.ntmps51
 go_wp2;go_ret;obtain ⟨⟨h1,h2⟩,h3,h4⟩:=alloc2 w #[.pointer (some ⟨p,0,none⟩)] #[.int .u64 root] 52 27;exact ⟨_,_,rfl,⟨h1,h2,cell_g HC.out h4,HT.out.kept h4 (by simp)⟩,h4⟩
theorem chainAt_calls {w:World} {q1 q2 p tp tb n:Nat} {f:Int} {F:Int→Option (Int×Int×Int)} {root:Int} (h:ChainAt w q1 q2 p tp tb n f F root) (W:WellT f F) (hr:inU root) (s:Int) :
  Calls Tryz.prog 67 #[.int .i64 s,.pointer (some ⟨q1,0,none⟩),.pointer (some ⟨q2,0,none⟩)] w fun e w'=>e=.returned (.int .u64 (atT F f root s))∧w.grownBy w' none:=by
 have HH:=lh h;have c1:=h.b1.c1;have c2:=h.b2.c1;have c3:=h.c3;clear h;go_enter Tryz.func67,Tryz.ntmps67
 go_wp2
 go_region_held3 (fun w'=>w'.cell? ⟨q1,0,none⟩=some (.pointer (some ⟨p,0,none⟩))∧w'.cell? ⟨q2,0,none⟩=some (.int .u64 root)∧w'.cell? ⟨p,3,none⟩=some (.pointer (some ⟨tp,0,none⟩)))
  (go_keep)
  (first
    | (go_at_call 48;refine (tat_calls (HH.out.tree.kept (gdrew (gR w none)) (by simp)) W hr s).mono ?_;rintro e wg ⟨rfl,hgg⟩;have d1:=cell_g (w:=w.drew) c1 hgg;have d2:=cell_g (w:=w.drew) c2 hgg;have d3:=cell_g (w:=w.drew) c3 hgg;have HG:=lh (g2 (gdrew (gR w none)) hgg);clear hgg))
 go_wp2;go_ret;exact ⟨rfl,HG.out⟩
attribute [local go_sem] max2' min2' max_two' min_two' in
theorem point_calls {w:World} {q1 q2 p tp tb n:Nat} {f:Int} {F:Int→Option (Int×Int×Int)} {root:Int} (h:ChainAt w q1 q2 p tp tb n f F root) (W:WellT f F) (hr:inU root) (a:Option Addr) (l c:Nat) (S B e:Int)
  (he:eStart e S≤9223372036854775807) :
  Calls Tryz.prog 69 #[cfgV a l c S B,.int .i64 e,chainV q1 q2] w fun z w'=>z=.returned (ptV (max 0 e) (atT F f root (eStart e S)))∧w.grownBy w' none:=by
 have HH:=lh h;clear h;unfold cfgV chainV ptV;obtain ⟨R,hR⟩ : ∃ R,R=atT F f root (eStart e S):=⟨_,rfl⟩;have HR:=lh hR;rw [← hR];clear hR;go_enter Tryz.func69,Tryz.ntmps69
 go_wp2_with fail
 refine nmK2 ?_;intro W2 b1 b2 hz hg;obtain ⟨q,hq_q⟩ : ∃ q,q=w.heap.size:=⟨_,rfl⟩;rw [← hq_q] at b1 b2 hz ⊢;have HQ_q:=lh hq_q;clear hq_q;have HB1:=lh b1;have HB2:=lh b2;have HG:=lh hg;clear b1 b2 hg;obtain ⟨c0,c1,c2⟩:=HB1.out.c3;refine (estart_calls e S _ he).mono ?_;rintro z w3 ⟨rfl,rfl⟩;have HC:=lh (HH.out.g HG.out);have hc:=chainAt_calls HC.out W hr (eStart e S);rw [← HR.out] at hc;have HX:=lh hc;clear hc c0 c1 c2;go_wp2_with fail
 refine HX.out.mono ?_;rintro z w4 ⟨rfl,hg⟩;replace HB2:=lh (HB2.out.g hg);replace HG:=lh (g2 HG.out hg);clear hg;obtain ⟨c0,c1⟩:=HB2.out.c2;obtain ⟨f0,f1⟩:=HB2.out.f2;go_wp2;obtain ⟨k1,_,k3⟩:=put2 (.int .i64 (max 0 e)) (.int .u64 R) HB2.out;refine bodyPost_ret (res69 rfl k1) rfl ⟨rfl,gnew HG.out k3 (by have:=HQ_q.out;omega)⟩
structure Led where
 j:Jst
 ep:Int
 bef:List Bool
 now:List Bool
def ledV (x:Led) (ba na:Value):Value:=
 .agg #[.bool x.j.b0,.bool x.j.b1,.bool x.j.b2,.bool x.j.b3,.int .i64 x.j.pe,.int .u64 x.j.pr,.int .i64 x.j.ce,.int .u64 x.j.cr,.int .i64 x.j.fe,.int .u64 x.j.fr,.int .i64 x.ep,ba,na]
def LedAt (w:World) (ok:Nat→Prop) (N:Nat) (x:Led) (v:Value):Prop:=
 ∃ g c h d,v=ledV x (.slice (some ⟨g,0,none⟩) N c) (.slice (some ⟨h,0,none⟩) N d)∧BRow w g N x.bef∧BRow w h N x.now∧ok g∧ok h
structure LedBd (x:Led):Prop where
 j:JBd x.j
 e0:0≤x.ep
 e1:x.ep≤1099511627776
theorem LedAt.g {w w':World} {ok:Nat→Prop} {N:Nat} {x:Led} {v:Value} (h:LedAt w ok N x v) (hg:w.grownBy w' none):LedAt w' ok N x v:=by
 obtain ⟨g,c,h2,d,hv,h3,h4,h5⟩:=h;exact ⟨g,c,h2,d,hv,h3.g hg,h4.g hg,h5⟩
theorem LedAt.imp {w:World} {ok ok':Nat→Prop} {N:Nat} {x:Led} {v:Value} (h:LedAt w ok N x v) (ho : ∀ i,ok i→ok' i):LedAt w ok' N x v:=by
 obtain ⟨g,c,h2,d,hv,h3,h4,h5,h6⟩:=h;exact ⟨g,c,h2,d,hv,h3,h4,ho _ h5,ho _ h6⟩
theorem LedAt.chg {S:Nat→Prop} {w w':World} {ok:Nat→Prop} {N:Nat} {x:Led} {v:Value} (h:LedAt w ok N x v) (hg:Chg S w w') (ho : ∀ i,ok i→¬ S i):LedAt w' ok N x v:=by
 obtain ⟨g,c,h2,d,hv,h3,h4,h5,h6⟩:=h;exact ⟨g,c,h2,d,hv,h3.chg hg (ho _ h5),h4.chg hg (ho _ h6),h5,h6⟩
def pullF (bs:List Int) (S:Int) (F:Int→Option (Int×Int×Int)) (f root:Int) (x:Led):Jst:=
 if x.ep < 2 then x.j else
  nextF x.j x.ep (enoughF (sumF bs (whoF x.bef bs.length)) (totF bs)) (enoughF (sumF bs (whoF x.now bs.length)) (totF bs))
   (max 0 (x.ep - 1)) (atT F f root (eStart (x.ep - 1) S)) (max 0 x.ep) (atT F f root (eStart x.ep S))
theorem eStart_le {e S:Int} (he:e≤1099511627777) (hS:S≤64):eStart e S≤9223372036854775807:=by
 unfold eStart;have h1:max 0 e≤1099511627777:=by omega
 have h2:max 1 S≤64:=by omega
 have:=Int.mul_le_mul h1 h2 (by omega) (by omega);omega
theorem who_wf {N:Nat} (xs:List Bool) (hN:N≤1000000) : ∀ i,i < (whoF xs N).length→(Lit.int .i64 ((whoF xs N).getD i 0)).wf=true:=fun i hi=>by
 have h:=whoF_mem xs N ((whoF xs N).getD i 0) (by rw [List.getD_eq_getElem?_getD,List.getElem?_eq_getElem hi];simp);generalize (whoF xs N).getD i 0=k at h ⊢;simp [Lit.wf,IntKind.min,IntKind.max,IntKind.signed,IntKind.bits];omega
set_option maxHeartbeats 4000000 in
theorem pull_calls {w:World} {q1 q2 p tp tb n:Nat} {f:Int} {F:Int→Option (Int×Int×Int)} {root:Int} (h:ChainAt w q1 q2 p tp tb n f F root) (W:WellT f F) (hr:inU root)
  {a:Option Addr} {l c:Nat} {S B:Int} {bs:List Int} (hb:Ints .u64 w a bs) (hl:l=bs.length) (hm:MayBe bs S B) {ok:Nat→Prop} {x:Led} {v:Value} (hx:LedAt w ok bs.length x v) (hxb:LedBd x) :
  Calls Tryz.prog 55 #[cfgV a l c S B,v,chainV q1 q2] w fun e w'=>e=.returned (jV (pullF bs S F f root x))∧w.grownBy w' none:=by
 subst hl;obtain ⟨g,cg,g',cg',rfl,hB,hN,_,_⟩:=hx;obtain ⟨j,ep,bef,now⟩:=x;obtain ⟨hj,e0,e1⟩:=hxb;simp only at hj e0 e1 hB hN;have hlen:=hm.l2;obtain ⟨R,hR⟩ : ∃ R,R=jV (pullF bs S F f root ⟨j,ep,bef,now⟩):=⟨_,rfl⟩;rw [← hR];have HR:=lh hR;have HH:=lh h;have HBS:=lh hb;have HBR:=lh hB;have HNR:=lh hN;have HM:=lh hm;have HJ:=lh hj;have HW:=lh W;clear h hb hB hN hm hj hR W;unfold ledV cfgV chainV;simp only;by_cases h2:ep < 2
 ·have hR2:R=jV j:=by rw [HR.out];unfold pullF;rw [if_pos h2]
  subst hR2;clear HR;unfold jV;go_enter Tryz.func55,Tryz.ntmps55
  go_wp2_with fail
  obtain ⟨⟨_,_,h3⟩,_,hg⟩:=alloc3 w #[.slice a bs.length c,.int .i64 S,.int .i64 B] #[.bool j.b0,.bool j.b1,.bool j.b2,.bool j.b3,.int .i64 j.pe,.int .u64 j.pr,.int .i64 j.ce,.int .u64 j.cr,.int .i64 j.fe,.int .u64 j.fr,.int .i64 ep,.slice (some ⟨g,0,none⟩) bs.length cg,.slice (some ⟨g',0,none⟩) bs.length cg'] #[.bool j.b0,.bool j.b1,.bool j.b2,.bool j.b3,.int .i64 j.pe,.int .u64 j.pr,.int .i64 j.ce,.int .u64 j.cr,.int .i64 j.fe,.int .u64 j.fr] 36 133 130;exact bodyPost_ret (res55 rfl h3) rfl ⟨rfl,hg⟩
 ·have hR2:R=jV (nextF j ep (enoughF (sumF bs (whoF bef bs.length)) (totF bs)) (enoughF (sumF bs (whoF now bs.length)) (totF bs)) (max 0 (ep - 1)) (atT F f root (eStart (ep - 1) S)) (max 0 ep) (atT F f root (eStart ep S))):=by rw [HR.out];unfold pullF;rw [if_neg h2]
  obtain ⟨T,hT⟩ : ∃ T,T=totF bs:=⟨_,rfl⟩;obtain ⟨P1,hP1⟩ : ∃ P1,P1=enoughF (sumF bs (whoF bef bs.length)) T:=⟨_,rfl⟩;obtain ⟨P2,hP2⟩ : ∃ P2,P2=enoughF (sumF bs (whoF now bs.length)) T:=⟨_,rfl⟩;obtain ⟨A1,hA1⟩ : ∃ A1,A1=atT F f root (eStart (ep - 1) S):=⟨_,rfl⟩;obtain ⟨A2,hA2⟩ : ∃ A2,A2=atT F f root (eStart ep S):=⟨_,rfl⟩;rw [← hT,← hP1,← hP2,← hA1,← hA2] at hR2;obtain ⟨J,hJe⟩ : ∃ J,J=nextF j ep P1 P2 (max 0 (ep - 1)) A1 (max 0 ep) A2:=⟨_,rfl⟩;rw [← hJe] at hR2;have htb:=totF_bound HM.out.bal;rw [← hT] at htb;have ht0:0≤T:=htb.1;have ht1:T≤4294967296000000:=by omega
  clear HR htb;have HR:=lh hR2;have HT:=lh hT;have HP1:=lh hP1;have HP2:=lh hP2;have HA1:=lh hA1;have HA2:=lh hA2;have HJE:=lh hJe;clear hT hP1 hP2 hA1 hA2 hJe;clear hR2;have hw1:IntKind.i64.wrap (ep - 1)=ep - 1:=IntWalk.i64_in _ (by omega);go_enter Tryz.func55,Tryz.ntmps55
  go_upto_region 3 with (fail)
  refine nmC3 ?_;intro W3 b0 b1 b2 hz hg;obtain ⟨q,hq_q⟩ : ∃ q,q=w.heap.size:=⟨_,rfl⟩;rw [← hq_q] at b0 b1 b2 hz ⊢;have HQ_q:=lh hq_q;clear hq_q;have HB0:=lh b0;have HB1:=lh b1;have HB2:=lh b2;have HG:=lh hg;clear b0 b1 b2 hg;replace HH:=lh (HH.out.g HG.out);replace HBS:=lh (HBS.out.g HG.out);replace HBR:=lh (HBR.out.g HG.out);replace HNR:=lh (HNR.out.g HG.out);obtain ⟨c0,c1,c2⟩:=HB0.out.c3;go_wp2_with fail
  refine (total_calls (S:=S) (B:=B) (c:=c) HBS.out rfl HM.out.bal (by omega)).mono ?_;rintro e w4 ⟨rfl,hg4⟩;rw [← HT.out];replace HB0:=lh (HB0.out.g hg4);replace HB1:=lh (HB1.out.g hg4);replace HB2:=lh (HB2.out.g hg4);replace HH:=lh (HH.out.g hg4);replace HBS:=lh (HBS.out.g hg4);replace HBR:=lh (HBR.out.g hg4);replace HNR:=lh (HNR.out.g hg4);replace HG:=lh (g2 HG.out hg4);clear hg4 c0 c1 c2;obtain ⟨c0,c1,c2⟩:=HB0.out.c3;obtain ⟨_,_,_,_,_,_,_,_,_,_,_,d11,d12⟩:=HB1.out.c13;go_upto_region 4 with (fail)
  replace HB0:=lh (HB0.out.g (gdrew (gR _ none)));replace HB1:=lh (HB1.out.g (gdrew (gR _ none)));replace HB2:=lh (HB2.out.g (gdrew (gR _ none)));replace HH:=lh (HH.out.g (gdrew (gR _ none)));replace HBS:=lh (HBS.out.g (gdrew (gR _ none)));replace HBR:=lh (HBR.out.g (gdrew (gR _ none)));replace HNR:=lh (HNR.out.g (gdrew (gR _ none)));replace HG:=lh (g2 HG.out (gdrew (gR _ none)))
  go_region_held3 (fun w'=>w'.cell? ⟨q,0,none⟩=some (.slice a bs.length c)∧w'.cell? ⟨q,1,none⟩=some (.int .i64 S)∧w'.cell? ⟨q,2,none⟩=some (.int .i64 B)∧w'.cell? ⟨q+1,11,none⟩=some (.slice (some ⟨g,0,none⟩) bs.length cg))
   (go_keep)
   (first
     | (go_at_call 75
        refine (who_calls HBR.out (by omega)).mono ?_;rintro e wg ⟨v20,rfl,hrow,hgg⟩;obtain ⟨wa,wc2,rfl,hI,hwl⟩:=ints_own hrow;replace HB0:=lh (HB0.out.g hgg);replace HB1:=lh (HB1.out.g hgg);replace HB2:=lh (HB2.out.g hgg);replace HH:=lh (HH.out.g hgg);replace HBS:=lh (HBS.out.g hgg);replace HBR:=lh (HBR.out.g hgg);replace HNR:=lh (HNR.out.g hgg);replace HG:=lh (g2 HG.out hgg);clear hgg hrow c0 c1 c2 d11 d12;have HI:=lh hI;clear hI;obtain ⟨c0,c1,c2⟩:=HB0.out.c3;obtain ⟨_,_,_,_,_,_,_,_,_,_,_,d11,d12⟩:=HB1.out.c13)
     | (go_at_call 74
        refine (sum_calls HBS.out rfl HI.out rfl HM.out.bal (Nat.le_trans (whoF_len _ _) (by omega)) (who_wf _ (by omega))).mono ?_;rintro e wg ⟨rfl,hgg⟩;replace HB0:=lh (HB0.out.g hgg);replace HB1:=lh (HB1.out.g hgg);replace HB2:=lh (HB2.out.g hgg);replace HH:=lh (HH.out.g hgg);replace HBS:=lh (HBS.out.g hgg);replace HBR:=lh (HBR.out.g hgg);replace HNR:=lh (HNR.out.g hgg);replace HG:=lh (g2 HG.out hgg);clear hgg c0 c1 c2 d11 d12;obtain ⟨c0,c1,c2⟩:=HB0.out.c3;obtain ⟨_,_,_,_,_,_,_,_,_,_,_,d11,d12⟩:=HB1.out.c13)
     | (go_at_call 73
        refine (enough_calls _ T _ ht0 ht1).mono ?_;rintro e wg ⟨rfl,rfl⟩;rw [← HP1.out]))
  clear HI;go_upto_region 5 with (fail)
  replace HB0:=lh (HB0.out.g (gdrew (gR _ none)));replace HB1:=lh (HB1.out.g (gdrew (gR _ none)));replace HB2:=lh (HB2.out.g (gdrew (gR _ none)));replace HH:=lh (HH.out.g (gdrew (gR _ none)));replace HBS:=lh (HBS.out.g (gdrew (gR _ none)));replace HBR:=lh (HBR.out.g (gdrew (gR _ none)));replace HNR:=lh (HNR.out.g (gdrew (gR _ none)));replace HG:=lh (g2 HG.out (gdrew (gR _ none)))
  go_region_held3 (fun w'=>w'.cell? ⟨q,0,none⟩=some (.slice a bs.length c)∧w'.cell? ⟨q,1,none⟩=some (.int .i64 S)∧w'.cell? ⟨q,2,none⟩=some (.int .i64 B)∧w'.cell? ⟨q+1,12,none⟩=some (.slice (some ⟨g',0,none⟩) bs.length cg'))
   (go_keep)
   (first
     | (go_at_call 75
        refine (who_calls HNR.out (by omega)).mono ?_;rintro e wg ⟨v20,rfl,hrow,hgg⟩;obtain ⟨wa,wc2,rfl,hI,hwl⟩:=ints_own hrow;replace HB0:=lh (HB0.out.g hgg);replace HB1:=lh (HB1.out.g hgg);replace HB2:=lh (HB2.out.g hgg);replace HH:=lh (HH.out.g hgg);replace HBS:=lh (HBS.out.g hgg);replace HBR:=lh (HBR.out.g hgg);replace HNR:=lh (HNR.out.g hgg);replace HG:=lh (g2 HG.out hgg);clear hgg hrow c0 c1 c2 d11 d12;have HI:=lh hI;clear hI;obtain ⟨c0,c1,c2⟩:=HB0.out.c3;obtain ⟨_,_,_,_,_,_,_,_,_,_,_,d11,d12⟩:=HB1.out.c13)
     | (go_at_call 74
        refine (sum_calls HBS.out rfl HI.out rfl HM.out.bal (Nat.le_trans (whoF_len _ _) (by omega)) (who_wf _ (by omega))).mono ?_;rintro e wg ⟨rfl,hgg⟩;replace HB0:=lh (HB0.out.g hgg);replace HB1:=lh (HB1.out.g hgg);replace HB2:=lh (HB2.out.g hgg);replace HH:=lh (HH.out.g hgg);replace HBS:=lh (HBS.out.g hgg);replace HBR:=lh (HBR.out.g hgg);replace HNR:=lh (HNR.out.g hgg);replace HG:=lh (g2 HG.out hgg);clear hgg c0 c1 c2 d11 d12;obtain ⟨c0,c1,c2⟩:=HB0.out.c3;obtain ⟨_,_,_,_,_,_,_,_,_,_,_,d11,d12⟩:=HB1.out.c13)
     | (go_at_call 73
        refine (enough_calls _ T _ ht0 ht1).mono ?_;rintro e wg ⟨rfl,rfl⟩;rw [← HP2.out]))
  clear HI;go_upto_region 6 with (fail)
  replace HB0:=lh (HB0.out.g (gdrew (gR _ none)));replace HB1:=lh (HB1.out.g (gdrew (gR _ none)));replace HB2:=lh (HB2.out.g (gdrew (gR _ none)));replace HH:=lh (HH.out.g (gdrew (gR _ none)));replace HBS:=lh (HBS.out.g (gdrew (gR _ none)));replace HBR:=lh (HBR.out.g (gdrew (gR _ none)));replace HNR:=lh (HNR.out.g (gdrew (gR _ none)));replace HG:=lh (g2 HG.out (gdrew (gR _ none)));obtain ⟨d0,d1,d2,d3,d4,d5,d6,d7,d8,d9,d10,_,_⟩:=HB1.out.c13;obtain ⟨e0',e1',e2,e3,e4,e5,e6,e7,e8,e9⟩:=HB2.out.c10;have hqq1:¬ q=q+1+1:=by omega
  have hqq2:¬ q+1+1=q:=by omega
  go_region_held3 (fun w'=>(w'.cell? ⟨q,0,none⟩=some (.slice a bs.length c)∧w'.cell? ⟨q,1,none⟩=some (.int .i64 S)∧w'.cell? ⟨q,2,none⟩=some (.int .i64 B))∧(w'.cell? ⟨q+1,0,none⟩=some (.bool j.b0)∧w'.cell? ⟨q+1,1,none⟩=some (.bool j.b1)∧w'.cell? ⟨q+1,2,none⟩=some (.bool j.b2)∧w'.cell? ⟨q+1,3,none⟩=some (.bool j.b3)) ∧
    (w'.cell? ⟨q+1,4,none⟩=some (.int .i64 j.pe)∧w'.cell? ⟨q+1,5,none⟩=some (.int .u64 j.pr)∧w'.cell? ⟨q+1,6,none⟩=some (.int .i64 j.ce)∧w'.cell? ⟨q+1,7,none⟩=some (.int .u64 j.cr)∧w'.cell? ⟨q+1,8,none⟩=some (.int .i64 j.fe)∧w'.cell? ⟨q+1,9,none⟩=some (.int .u64 j.fr))∧w'.cell? ⟨q+1,10,none⟩=some (.int .i64 ep))
   (go_keep)
   (first
     | (go_at_call 69
        refine (point_calls HH.out HW.out hr a bs.length c S B _ (eStart_le (by omega) HM.out.s2)).mono ?_;rintro e wg ⟨rfl,hgg⟩;(first | rw [← HA1.out] | rw [← HA2.out]);unfold ptV;replace HB0:=lh (HB0.out.g hgg);replace HB1:=lh (HB1.out.g hgg);replace HB2:=lh (HB2.out.g hgg);replace HH:=lh (HH.out.g hgg);replace HG:=lh (g2 HG.out hgg);clear hgg c0 c1 c2 d0 d1 d2 d3 d4 d5 d6 d7 d8 d9 d10;obtain ⟨c0,c1,c2⟩:=HB0.out.c3;obtain ⟨d0,d1,d2,d3,d4,d5,d6,d7,d8,d9,d10,_,_⟩:=HB1.out.c13)
     | (go_at_call 76
        refine (next_calls j HJ.out ep P1 P2 _ _ _ _ _).mono ?_;rintro e wg ⟨rfl,hgg⟩;rw [← HJE.out];unfold jV;replace HB0:=lh (HB0.out.g hgg);replace HB1:=lh (HB1.out.g hgg);replace HB2:=lh (HB2.out.g hgg);replace HH:=lh (HH.out.g hgg);replace HG:=lh (g2 HG.out hgg);clear hgg c0 c1 c2 d0 d1 d2 d3 d4 d5 d6 d7 d8 d9 d10;obtain ⟨c0,c1,c2⟩:=HB0.out.c3;obtain ⟨d0,d1,d2,d3,d4,d5,d6,d7,d8,d9,d10,_,_⟩:=HB1.out.c13;obtain ⟨e0',e1',e2,e3,e4,e5,e6,e7,e8,e9⟩:=HB2.out.c10;obtain ⟨f0,f1,f2,f3,f4,f5,f6,f7,f8,f9⟩:=HB2.out.f10))
  all_goals
   go_wp2;obtain ⟨k1,_,k3⟩:=put10 (.bool J.b0) (.bool J.b1) (.bool J.b2) (.bool J.b3) (.int .i64 J.pe) (.int .u64 J.pr) (.int .i64 J.ce) (.int .u64 J.cr) (.int .i64 J.fe) (.int .u64 J.fr) HB2.out;exact bodyPost_ret (res55 rfl k1) rfl ⟨by rw [HR.out];rfl,gnew HG.out k3 (by have:=HQ_q.out;omega)⟩
end Go.Proofs.YtndfpmboanohcaaGreatDoor
namespace Go.Proofs.YtndfpmboanohcaaGreatDoor
open Go
section
variable {P:Program} {ops:Array Oper} {Q:Exit→Act→World→Prop} {md:Region.Mode} {S:World→Prop}
def wpAnyL (P:Program) (md:Region.Mode) (ops:Array Oper) (Q:Exit→Act→World→Prop) (S:World→Prop) (n:Nat):Nat→Array Bool→Act→World→Prop
 | 0,listed,a,w=>Region.ready md ops listed=[]∧Q .normal a w
 | fuel+1,listed,a,w=>
  (Region.ready md ops listed=[]→Q .normal a w) ∧
  ∀ i∈Region.ready md ops listed,wpOp P ops Q i (fun a' w'=>(S w'∨i=n)∧wpAnyL P md ops Q S n fuel (listed.setIfInBounds i true) a' w') a w
theorem wpAny_of_last {n:Nat} : ∀ (fuel:Nat) (listed:Array Bool) (a:Act) (w:World),wpAnyL P md ops Q S n fuel listed a w→wpAny P md ops Q fuel listed a w
 | 0,_,_,_,h=>h
 | fuel+1,_,_,_,h=>⟨h.1,fun i hi=>wpOp_mono (fun a' w' h'=>wpAny_of_last fuel _ a' w' h'.2) (h.2 i hi)⟩
def waitsB (md:Region.Mode) (ops:Array Oper) (n i:Nat):Bool:=
 match ops[n]? with
 | none=>false
 | some o=>o.after.any fun e=>Region.binds md e && e.on == i
theorem waits_not_ready {n i:Nat} {listed:Array Bool} (hw:waitsB md ops n i=true) (hi:i∈Region.ready md ops listed):¬ n∈Region.ready md ops listed:=by
 intro hn;obtain ⟨_,o,ho,hall⟩:=mem_ready.1 hn;unfold waitsB at hw;rw [ho] at hw;rw [Array.any_eq_true'] at hw;obtain ⟨e,he,hb⟩:=hw;simp only [Bool.and_eq_true,beq_iff_eq] at hb;have h1:=hall e he hb.1;have h0:=(mem_ready.1 hi).1;rw [hb.2] at h1;rcases Nat.lt_or_ge i listed.size with h' | h'
 ·simp [h'] at h0 h1;rw [h0] at h1;cases h1
 ·simp [Array.getElem?_eq_none h'] at h1
theorem wpAnyL_first {n i:Nat} {oi:Oper} {v:Value} (hi:ops[i]? = some oi) (hw:waitsB md ops n i=true) (hsel : ∀ (j:Nat) (o:Oper) cs b,ops[j]? = some o→o.op≠.select cs b)
  (hQ : ∀ c a w,Q (.panic c) (a.put oi.dst v) w→Q (.panic c) a w) :
  ∀ (fuel:Nat) (listed:Array Bool) (a:Act) (w:World),
   (∀ j oj,ops[j]? = some oj→j≠i→listed.getD j true=false→(∀ e∈oj.after,Region.binds md e=true→e.on≠i)→oi.apart ops oj=true) →
   i∈Region.ready md ops listed→YieldsIf P ops S oi v a→S w →
   wpAnyL P md ops Q S n fuel (listed.setIfInBounds i true) (a.put oi.dst v) w→wpAnyL P md ops Q S n (fuel+1) listed a w:=by
 intro fuel;induction fuel with
 | zero=>
  intro listed a w _ hr hy hS H;refine ⟨fun h=>(by rw [h] at hr;cases hr),fun j hj=>?_⟩;by_cases hji:j=i
  ·subst hji;exact hy.wpOp hi hS ⟨.inl hS,H⟩
  ·have:=ready_mono hj hji;rw [H.1] at this;cases this
 | succ fuel ih=>
  intro listed a w hfree hr hy hS H;refine ⟨fun h=>(by rw [h] at hr;cases hr),fun j hj=>?_⟩;by_cases hji:j=i
  ·subst hji;exact hy.wpOp hi hS ⟨.inl hS,H⟩
  ·have hjn:j≠n:=fun e=>waits_not_ready hw hr (e ▸ hj);have h1:=H.2 j (ready_mono hj hji);obtain ⟨hjun,oj,hoj,hall⟩:=mem_ready.1 hj;have hnot : ∀ e∈oj.after,Region.binds md e=true→e.on≠i:=fun e he hb heq=>by
    have h1:=hall e he hb;have h0:=(mem_ready.1 hr).1;rw [heq] at h1;rcases Nat.lt_or_ge i listed.size with h' | h'
    ·simp [h'] at h0 h1;rw [h0] at h1;cases h1
    ·simp [Array.getElem?_eq_none h'] at h1
   have h2:=wpOp_putIf hoj (hfree j oj hoj hji hjun hnot) (fun cs b=>hsel i oi cs b hi) (fun cs b=>hsel j oj cs b hoj) hQ hy h1;have hfree' : ∀ k ok,ops[k]? = some ok→k≠i→(listed.setIfInBounds j true).getD k true=false →
     (∀ e∈ok.after,Region.binds md e=true→e.on≠i)→oi.apart ops ok=true:=fun k ok hk hki hun hno=>by
    refine hfree k ok hk hki ?_ hno;by_cases hjk:j=k
    ·subst hjk;exact hjun
    ·rw [getD_set_ne true hjk] at hun;exact hun
   refine wpOp_mono (fun a' w' h3=>?_) h2;have hs:S w':=h3.2.1.resolve_right hjn;refine ⟨.inl hs,ih (listed.setIfInBounds j true) a' w' hfree' (ready_mono hr (Ne.symm hji)) h3.1 hs ?_⟩;rw [Array.setIfInBounds_comm _ _ hji];exact h3.2.2
theorem wpAnyL_take {n i:Nat} {oi:Oper} {v:Value} {fuel:Nat} {listed:Array Bool} {a:Act} {w:World} (hi:ops.toList[i]? = some oi)
  (hr:(Region.ready md ops listed).contains i=true) (hs:Region.noSelect ops=true) (hf:Region.free md ops listed i=true) (hw:waitsB md ops n i=true)
  (hQ : ∀ c a w,Q (.panic c) (a.put oi.dst v) w→Q (.panic c) a w) (hy:YieldsIf P ops S oi v a) (hS:S w)
  (h:wpAnyL P md ops Q S n fuel (listed.setIfInBounds i true) (a.put oi.dst v) w):wpAnyL P md ops Q S n (fuel+1) listed a w:=
 wpAnyL_first (by simpa using hi) hw (Region.noSelect_spec hs) hQ fuel listed a w (Region.free_spec (by simpa using hi) hf) (by simpa using hr) hy hS h
def AllReadyL (P:Program) (md:Region.Mode) (ops:Array Oper) (Q:Exit→Act→World→Prop) (S:World→Prop) (n fuel:Nat) (listed:Array Bool) (a:Act) (w:World) (rs:List Nat):Prop:=
 ∀ i∈rs,wpOp P ops Q i (fun a' w'=>(S w'∨i=n)∧wpAnyL P md ops Q S n fuel (listed.setIfInBounds i true) a' w') a w
theorem AllReadyL.nil {n fuel:Nat} {listed:Array Bool} {a:Act} {w:World}:AllReadyL P md ops Q S n fuel listed a w []:=fun _ h=>by cases h
theorem AllReadyL.cons {n fuel:Nat} {listed:Array Bool} {a:Act} {w:World} {i:Nat} {o:Oper} {rs:List Nat} (ho:ops.toList[i]? = some o)
  (h : ∀ K':Act→World→Prop,Shut (∀ a w,(S w∨i=n)→wpAnyL P md ops Q S n fuel (listed.setIfInBounds i true) a w→K' a w)→if Region.wanted o (yielded ops a.tmps)=true then Oper.wp P o a w K' Q else K' (a.put o.dst undef) w)
  (hs:AllReadyL P md ops Q S n fuel listed a w rs):AllReadyL P md ops Q S n fuel listed a w (i :: rs):=fun j hj=>by
 rcases List.mem_cons.1 hj with rfl | hj
 ·exact wpOp_step (by simpa using ho) (fun K' hK=>h K' (fun a w hS hW=>hK a w ⟨hS,hW⟩))
 ·exact hs j hj
theorem wpAnyL_ready {n:Nat} {rs:List Nat} {fuel:Nat} {listed:Array Bool} {a:Act} {w:World} (hr:Region.ready md ops listed=rs) (hne:rs≠[])
  (h:AllReadyL P md ops Q S n fuel listed a w rs):wpAnyL P md ops Q S n (fuel+1) listed a w:=
 ⟨fun h0=>absurd (hr ▸ h0) hne,hr ▸ h⟩
theorem wpAnyL_done {n:Nat} {listed:Array Bool} {a:Act} {w:World} (hr:Region.ready md ops listed=[]) (h:Q .normal a w) : ∀ fuel,wpAnyL P md ops Q S n fuel listed a w
 | 0=>⟨hr,h⟩
 | _+1=>⟨fun _=>h,by rw [hr];simp⟩
theorem wp_region_last (S:World→Prop) (n:Nat) {id:Nat} {a:Act} {w:World} (hm:P.follows .mixedOrders=true) (hS:S w.drew)
  (h:S w.drew→wpAnyL P .any ops Q S n ops.size (Array.replicate ops.size false) a w.drew):(Code.region id ops true).wp P Q a w:=
 wp_region_any hm (wpAny_of_last _ _ _ _ (h hS))
theorem wL {n:Nat} {oi:Oper} {fuel:Nat} {listed:Array Bool} {a:Act} {w:World} (i:Nat) (v:Value)
  (hv : ∀ w,S w→(execOp a.eval oi).run P w=.ok (.value v) w) (hS:S w)
  (h:wpAnyL P md ops Q S n fuel (listed.setIfInBounds i true) (a.put oi.dst v) w) (hi:ops.toList[i]? = some oi:=by rfl)
  (hb:((Region.ready md ops listed).contains i && (Region.noSelect ops && (Region.free md ops listed i && waitsB md ops n i)))=true:=by as_aux_lemma=>kernel_rfl)
  (hw:Region.wanted oi (yielded ops a.tmps)=true:=by rfl) (hQ : ∀ c a w,Q (.panic c) (a.put oi.dst v) w→Q (.panic c) a w:=by exact fun _ _ _ h=>h):wpAnyL P md ops Q S n (fuel+1) listed a w:=by
 simp only [Bool.and_eq_true] at hb;exact wpAnyL_take hi hb.1 hb.2.1 hb.2.2.1 hb.2.2.2 hQ (.inl ⟨hw,hv⟩) hS h
theorem tL {n:Nat} {oi:Oper} {fuel:Nat} {listed:Array Bool} {a:Act} {w:World} {v:Value} (i:Nat) (h:wpAnyL P md ops Q S n fuel (listed.setIfInBounds i true) (a.put oi.dst v) w)
  (hi:ops.toList[i]? = some oi:=by rfl) (hS:S w:=by exact hS) (hv : ∀ w,S w→(execOp a.eval oi).run P w=.ok (.value v) w:=by intro w hSw;have hc:=TK.out w hSw;go_simp;try with_reducible rfl)
  (hb:((Region.ready md ops listed).contains i && (Region.noSelect ops && (Region.free md ops listed i && waitsB md ops n i)))=true:=by as_aux_lemma=>kernel_rfl)
  (hw:Region.wanted oi (yielded ops a.tmps)=true:=by rfl) (hQ : ∀ c a w,Q (.panic c) (a.put oi.dst v) w→Q (.panic c) a w:=by exact fun _ _ _ h=>h):wpAnyL P md ops Q S n (fuel+1) listed a w:=wL i v hv hS h hi hb hw hQ
theorem nL {n fuel:Nat} {listed:Array Bool} {a:Act} {w:World}:AllReadyL P md ops Q S n fuel listed a w []:=.nil
theorem cL {n fuel:Nat} {listed:Array Bool} {a:Act} {w:World} (i:Nat) {o:Oper} {rs:List Nat}
  (h : ∀ K':Act→World→Prop,Shut (∀ a w,(S w∨i=n)→wpAnyL P md ops Q S n fuel (listed.setIfInBounds i true) a w→K' a w)→if Region.wanted o (yielded ops a.tmps)=true then Oper.wp P o a w K' Q else K' (a.put o.dst undef) w)
  (hs:AllReadyL P md ops Q S n fuel listed a w rs) (ho:ops.toList[i]? = some o:=by rfl):AllReadyL P md ops Q S n fuel listed a w (i :: rs):=.cons ho h hs
theorem aL {n:Nat} (rs:List Nat) {fuel:Nat} {listed:Array Bool} {a:Act} {w:World} (h:AllReadyL P md ops Q S n fuel listed a w rs) (hr:Region.ready md ops listed=rs:=by as_aux_lemma=>kernel_rfl) (hne:rs≠[]:=by simp) :
  wpAnyL P md ops Q S n (fuel+1) listed a w:=wpAnyL_ready hr hne h
theorem rL {n fuel:Nat} {listed:Array Bool} {a:Act} {w:World} (i:Nat) {o:Oper}
  (h : ∀ K':Act→World→Prop,Shut (∀ a w,(S w∨i=n)→wpAnyL P md ops Q S n fuel (listed.setIfInBounds i true) a w→K' a w)→if Region.wanted o (yielded ops a.tmps)=true then Oper.wp P o a w K' Q else K' (a.put o.dst undef) w)
  (ho:ops.toList[i]? = some o:=by rfl) (hr:Region.ready md ops listed=[i]:=by as_aux_lemma=>kernel_rfl):wpAnyL P md ops Q S n (fuel+1) listed a w:=aL [i] (.cons ho h .nil) hr
theorem dL {n:Nat} {listed:Array Bool} {a:Act} {w:World} (h:Q .normal a w) (fuel:Nat) (hr:Region.ready md ops listed=[]:=by as_aux_lemma=>kernel_rfl):wpAnyL P md ops Q S n fuel listed a w:=wpAnyL_done hr h fuel
end
theorem zz:(∀ (a:Act) (d:Tmp) (v:Value),a.put (some d) v={ a with tmps:=a.tmps.setIfInBounds d v })∧(∀ (a:Act) (v:Value),a.put none v=a) ∧
  (∀ {α:Type} (l:List α) (i:Nat) (a:α),l.toArray.setIfInBounds i a=(l.set i a).toArray)∧(∀ {α:Type} (x a:α) (xs:List α),(x :: xs).set 0 a=a :: xs) ∧
  (∀ {α:Type} (x a:α) (xs:List α) (i:Nat),(x :: xs).set (i+1) a=x :: xs.set i a):=
 ⟨fun _ _ _=>rfl,fun _ _=>rfl,fun _ _ _=>by simp,fun _ _ _=>rfl,fun _ _ _ _=>rfl⟩
end Go.Proofs.YtndfpmboanohcaaGreatDoor
