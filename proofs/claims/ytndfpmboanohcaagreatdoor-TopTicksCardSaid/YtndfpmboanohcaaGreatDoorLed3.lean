/- Contracts of ledger.Open and ledger.Advance. -/
import Derived.Test.YtndfpmboanohcaaGreatDoorLed2ToReg
namespace Go.Proofs.YtndfpmboanohcaaGreatDoor
set_option maxRecDepth 100000
open Go.RowKit Go.Maps SkipPure
theorem brow_made {w:World} {g n:Nat} (h:Blk w g (madeCells #[Value.bool false] n) 4):BRow w g n (List.replicate n false):=
 ⟨by simp,fun i hi=>by
  rw [h.at i];unfold madeCells;rw [Array.getElem?_map,Array.getElem?_range,if_pos hi];simp [List.getD_eq_getElem?_getD,hi,Nat.mod_one]⟩
theorem make_bools (n:Nat) (hn:n≤1000000) : ∀ w:World,(Instr.makeSlice 131 (.int .i64 (n:Int)) (.int .i64 (n:Int))).run Tryz.prog w=.ok (.slice (some ⟨w.heap.size,0,none⟩) n n) (w.alloc (.cells (madeCells #[Value.bool false] n) 4)):=
 run_make_row' (P:=Tryz.prog) 131 4 (.bool false) 1 Tryz.underlying131 info_bool rfl .i64 .i64 n (by omega) (by omega)
def led0 (N:Nat) (r:Int):Led:=⟨⟨false,false,false,false,0,r,0,r,0,r⟩,0,List.replicate N false,List.replicate N false⟩
set_option maxHeartbeats 2000000 in
theorem open_calls {w:World} {a:Option Addr} {l c:Nat} {S B:Int} (hl:l≤4096) (r:Int) :
  Calls Tryz.prog 30 #[cfgV a l c S B,.int .u64 r] w fun e w'=>∃ v,e=.returned v∧LedAt w' (fun i=>w.heap.size≤i) l (led0 l r) v∧w.grownBy w' none:=by
 have hmk:=make_bools l (by omega);unfold cfgV;go_enter Tryz.func30,Tryz.ntmps30
 go_upto_region 2 with (fail)
 refine nmC3 ?_;intro W b0 b1 b2 hz hg;obtain ⟨q,hq_q⟩ : ∃ q,q=w.heap.size:=⟨_,rfl⟩;rw [← hq_q] at b0 b1 b2 hz ⊢;have HQ_q:=lh hq_q;clear hq_q;have HB0:=lh b0;have HB1:=lh b1;have HB2:=lh b2;have HG:=lh hg;have HZ:=lh hz;clear b0 b1 b2 hg hz;obtain ⟨c0,c1,c2⟩:=HB0.out.c3;obtain ⟨d0,d1⟩:=HB2.out.c2;obtain ⟨⟨r1,r2⟩,hz2,hg2⟩:=alloc2 W (madeCells #[Value.bool false] l) (madeCells #[Value.bool false] l) 4 4;have hb1:=HB1.out.g hg2;obtain ⟨k0,k1,k2,k3,k4,k5,k6,k7,k8,k9,k10,k11,k12⟩:=hb1.c13;obtain ⟨f0,f1,f2,f3,f4,f5,f6,f7,f8,f9,f10,f11,f12⟩:=hb1.f13;have HR1:=lh r1;have HR2:=lh r2;have HB3:=lh hb1;have HG2:=lh hg2;clear r1 r2 hb1 hg2;clear hz2;have hzz:=HZ.out;have m1:¬ W.heap.size=q+1:=by omega
 have m2:¬ q+1=W.heap.size:=by omega
 have m3:¬ W.heap.size=q:=by omega
 have m4:¬ q=W.heap.size:=by omega
 clear hzz;have hqq1:¬ q=q+1+1:=by omega
 have hqq2:¬ q+1+1=q:=by omega
 go_region_held3 (fun w'=>w'.cell? ⟨q,0,none⟩=some (.slice a l c)∧w'.cell? ⟨q+1+1,0,none⟩=some (.int .i64 0)∧w'.cell? ⟨q+1+1,1,none⟩=some (.int .u64 r))
  (go_keep) (fail)
 ·go_wp2;obtain ⟨t1,_,t3⟩:=put13 (.bool false) (.bool false) (.bool false) (.bool false) (.int .i64 0) (.int .u64 r) (.int .i64 0) (.int .u64 r) (.int .i64 0) (.int .u64 r) (.int .i64 0) (.slice (some ⟨W.heap.size,0,none⟩) l l) (.slice (some ⟨W.heap.size+1,0,none⟩) l l) HB3.out;have u1:=(brow_made (HR1.out.kept t3 (by simp;omega))).g (gdrew (gR _ none));have u2:=(brow_made (HR2.out.kept t3 (by simp;omega))).g (gdrew (gR _ none));have hqw:=HQ_q.out;have hzz:=HZ.out;refine bodyPost_ret (res30 rfl t1.drew) rfl ⟨_,rfl,⟨_,_,_,_,rfl,u1,u2,by omega,by omega⟩,gdrew (gnew (g2 HG.out HG2.out) t3 (by omega))⟩
 ·go_wp2;obtain ⟨t1,_,t3⟩:=put13 (.bool false) (.bool false) (.bool false) (.bool false) (.int .i64 0) (.int .u64 r) (.int .i64 0) (.int .u64 r) (.int .i64 0) (.int .u64 r) (.int .i64 0) (.slice (some ⟨W.heap.size+1,0,none⟩) l l) (.slice (some ⟨W.heap.size,0,none⟩) l l) HB3.out;have u1:=(brow_made (HR1.out.kept t3 (by simp;omega))).g (gdrew (gR _ none));have u2:=(brow_made (HR2.out.kept t3 (by simp;omega))).g (gdrew (gR _ none));have hqw:=HQ_q.out;have hzz:=HZ.out;refine bodyPost_ret (res30 rfl t1.drew) rfl ⟨_,rfl,⟨_,_,_,_,rfl,u2,u1,by omega,by omega⟩,gdrew (gnew (g2 HG.out HG2.out) t3 (by omega))⟩
theorem atT_inU {f:Int} {F:Int→Option (Int×Int×Int)} (W:WellT f F) (r s:Int):inU (atT F f r s):=by
 have h : ∀ k r,inU (upT F f s k r)∨k=0:=by
  intro k;induction k with
  | zero=>intro r;exact .inr rfl
  | succ k ih=>
   intro r;left;unfold upT;cases hF:F r with
   | none=>exact ⟨by simp,by simp⟩
   | some x=>
    simp only;split
    ·rename_i c
     obtain ⟨y,hy,hlt⟩:=W.up r x hF c.1;rcases ih x.1 with h | h
     ·exact h
     ·subst h;exact W.key _ _ hy
    ·exact W.key _ _ hF
 rcases h (slotT F r+1) r with h | h
 ·exact h
 ·omega
def advStep (bs:List Int) (S:Int) (F:Int→Option (Int×Int×Int)) (f root:Int) (x:Led) (e:Int):Led:=⟨pullF bs S F f root x,e+1,x.now,List.replicate bs.length false⟩
def advF (bs:List Int) (S:Int) (F:Int→Option (Int×Int×Int)) (f root:Int) (x:Led) (slot:Int):Led:=(endsF (eOf (x.ep * max 1 S) S) (eOf slot S)).foldl (advStep bs S F f root) x
theorem pullF_bd {bs:List Int} {S:Int} {F:Int→Option (Int×Int×Int)} {f root:Int} (W:WellT f F) {x:Led} (hx:LedBd x):JBd (pullF bs S F f root x):=by
 obtain ⟨⟨p0,p1,c0,c1,f0,f1,pr,cr,fr⟩,e0,e1⟩:=hx;unfold pullF;split
 ·exact ⟨p0,p1,c0,c1,f0,f1,pr,cr,fr⟩
 ·unfold nextF finF;have h1:=atT_inU W root (eStart (x.ep - 1) S);have h2:=atT_inU W root (eStart x.ep S);refine ⟨c0,c1,?_,?_,?_,?_,cr,?_,?_⟩
  ·simp only;split
   ·omega
   ·split
    ·omega
    ·exact c0
  ·simp only;split
   ·omega
   ·split
    ·omega
    ·exact c1
  ·simp only;repeat' split
   all_goals assumption
  ·simp only;repeat' split
   all_goals assumption
  ·simp only;split
   ·exact h2
   ·split
    ·exact h1
    ·exact cr
  ·simp only;repeat' split
   all_goals assumption
def AdvCur (w:World) (q:Nat) (ok:Nat→Prop) (N:Nat) (x:Led) (wr:World):Prop:=
 ∃ g c h d,Blk wr q #[.bool x.j.b0,.bool x.j.b1,.bool x.j.b2,.bool x.j.b3,.int .i64 x.j.pe,.int .u64 x.j.pr,.int .i64 x.j.ce,.int .u64 x.j.cr,.int .i64 x.j.fe,.int .u64 x.j.fr,.int .i64 x.ep,.slice (some ⟨g,0,none⟩) N c,.slice (some ⟨h,0,none⟩) N d] 133 ∧
  BRow wr g N x.bef∧BRow wr h N x.now∧(ok g∨w.heap.size≤g)∧(ok h∨w.heap.size≤h)∧(g < q∨q+1 < g)∧(h < q∨q+1 < h)
theorem AdvCur.g {w:World} {q:Nat} {ok:Nat→Prop} {N:Nat} {x:Led} {wr wr':World} (h:AdvCur w q ok N x wr) (hg:wr.grownBy wr' none):AdvCur w q ok N x wr':=by
 obtain ⟨g,c,h,d,h1,h2,h3,h4⟩:=h;exact ⟨g,c,h,d,h1.g hg,h2.g hg,h3.g hg,h4⟩
theorem news_bools {w:World} {g n:Nat} {xs:List Bool} (h:BRow w g n xs) : ∀ j u,(xs.map Value.bool)[j]? = some u→w.cell? ((⟨g,0,none⟩:Addr).add j)=some u:=by
 intro j u hu;have hj:j < xs.length:=by have:=(List.getElem?_eq_some_iff.1 hu).1;simpa using this
 rw [add0,h.2 j (by have:=h.1;omega)];rw [List.getElem?_map,List.getElem?_eq_getElem hj] at hu;rw [List.getD_eq_getElem?_getD,List.getElem?_eq_getElem hj]
 simpa using hu
theorem brow_own {w:World} {base n g c:Nat} {xs:List Bool} (h:w.ownsRow base 4 1 (.slice (some ⟨g,0,none⟩) n c) n (xs.map Value.bool)):BRow w g n xs:=by
 have hl:xs.length=n:=by have:=h.1;simpa using this
 refine ⟨hl,fun i hi=>?_⟩;rw [h.cellAt i (by omega)];simp [List.getD_eq_getElem?_getD,show i < xs.length by omega]
theorem ints_own_at {w:World} {base n:Nat} {wa:Option Addr} {c m:Nat} {xs:List Value} (h:w.ownsRow base 3 1 (.slice wa m c) n xs) : ∀ ad,wa=some ad→base≤ad.block:=by
 intro ad ha;subst ha;rcases h.two with hv | ⟨g,cap,hv⟩
 ·cases hv
 ·rw [hv] at h
  injection hv with h1 h2 h3
  injection h1 with h1
  subst h1;exact (h.lt g rfl).1
theorem bools_one (xs:List Bool) : ∀ u∈xs.map Value.bool,u.oneCell'=true:=by
 intro u hu;obtain ⟨b,_,rfl⟩:=List.mem_map.1 hu;rfl
theorem nmA1 {K:Act→World→Prop} {a:Act} {W:World} {cs:Array Value} {T:TypeId} (h : ∀ W',Blk W' W.heap.size cs T→W.grownBy W' none→K a W'):K a (W.alloc (.cells cs T)):=
 h _ (Blk.alloc W cs T) (World.grownBy_alloc W _ none)
theorem Chg.g {S:Nat→Prop} {w w' w'':World} (h:Chg S w w') (hg:w'.grownBy w'' none):Chg S w w'':=h.trans (Chg.of hg)
theorem add_block (a:Addr) (i:Nat):(a.add i).block=a.block:=by
 unfold Addr.add
 repeat' split
 all_goals rfl
theorem Ints.chg {S:Nat→Prop} {k:IntKind} {w w':World} {a:Option Addr} {xs:List Int} (h:Ints k w a xs) (hg:Chg S w w') (hn : ∀ ad,a=some ad→¬ S ad.block):Ints k w' a xs:=fun i hi=>by
 obtain ⟨ad,h1,h2⟩:=h i hi;refine ⟨ad,h1,?_⟩;have h4:=World.block_lt_of_cell? w (ad.add i) h2;have h5:=hg.block (ad.add i).block h4 (by rw [add_block];exact hn ad h1);unfold World.cell? at *;rw [h5];exact h2
def AdvS (q rg rc rh rd:Nat) (a:Option Addr) (l c:Nat) (S B:Int) (bs:List Int) (x:Led) (q1 q2 p tp tb n:Nat) (f:Int) (F:Int→Option (Int×Int×Int)) (root:Int) (w':World):Prop:=
 Blk w' q #[.slice a l c,.int .i64 S,.int .i64 B] 36 ∧
 Blk w' (q+1) #[.bool x.j.b0,.bool x.j.b1,.bool x.j.b2,.bool x.j.b3,.int .i64 x.j.pe,.int .u64 x.j.pr,.int .i64 x.j.ce,.int .u64 x.j.cr,.int .i64 x.j.fe,.int .u64 x.j.fr,.int .i64 x.ep,.slice (some ⟨rg,0,none⟩) l rc,.slice (some ⟨rh,0,none⟩) l rd] 133 ∧
 BRow w' rg l x.bef∧BRow w' rh l x.now∧ChainAt w' q1 q2 p tp tb n f F root∧Ints .u64 w' a bs
theorem AdvS.g {q rg rc rh rd:Nat} {a:Option Addr} {l c:Nat} {S B:Int} {bs:List Int} {x:Led} {q1 q2 p tp tb n:Nat} {f:Int} {F:Int→Option (Int×Int×Int)} {root:Int} {w w':World}
  (h:AdvS q rg rc rh rd a l c S B bs x q1 q2 p tp tb n f F root w) (hg:w.grownBy w' none):AdvS q rg rc rh rd a l c S B bs x q1 q2 p tp tb n f F root w':=by
 obtain ⟨h1,h2,h3,h4,h5,h6⟩:=h;exact ⟨h1.g hg,h2.g hg,h3.g hg,h4.g hg,h5.g hg,h6.g hg⟩
set_option maxHeartbeats 8000000 in
theorem adv_calls {w:World} {q1 q2 p tp tb n:Nat} {f:Int} {F:Int→Option (Int×Int×Int)} {root:Int} (h:ChainAt w q1 q2 p tp tb n f F root) (W:WellT f F) (hr:inU root)
  {a:Option Addr} {l c:Nat} {S B:Int} {bs:List Int} (hb:Ints .u64 w a bs) (hl:l=bs.length) (hm:MayBe bs S B) {ok:Nat→Prop} {x:Led} {v:Value} (hx:LedAt w ok bs.length x v) (hxb:LedBd x)
  {slot:Int} (hs0:slot≤1099511627776) :
  Calls Tryz.prog 52 #[cfgV a l c S B,v,.int .i64 slot,chainV q1 q2] w fun e w'=>∃ v',e=.returned v'∧LedAt w' (fun i=>ok i∨w.heap.size≤i) bs.length (advF bs S F f root x slot) v'∧LedBd (advF bs S F f root x slot)∧w.grownBy w' none:=by
 subst hl;have hN1:=hm.l1;have hN2:=hm.l2;have hS1:=hm.s1;have hS2:=hm.s2;obtain ⟨g0,cg,h0,ch,rfl,hB,hN,og,oh⟩:=hx;have hg0:=hB.lt (by omega);have hh0:=hN.lt (by omega);obtain ⟨i0,hi⟩:=elem_bool;have hmk:=make_bools bs.length (by omega);have hmul1:x.ep * max 1 S≤70368744177664:=by
  have h1:max 1 S≤64:=by omega
  have:=Int.mul_le_mul hxb.e1 h1 (by omega) (by omega);omega
 have hmul0:0≤x.ep * max 1 S:=Int.mul_nonneg hxb.e0 (by omega);have hwm:IntKind.i64.wrap (x.ep * max 1 S)=x.ep * max 1 S:=IntWalk.i64_in _ (by omega);have hes:=eOf_nonneg slot S;have hes1:=eOf_le slot S;obtain ⟨es,hese⟩ : ∃ es,es=endsF (eOf (x.ep * max 1 S) S) (eOf slot S):=⟨_,rfl⟩;have hbd : ∀ i,i < es.length→0≤es.getD i 0∧es.getD i 0 < 1099511627776:=fun i hi=>by
  rw [hese,endsF_len] at hi;rw [hese,endsF_getD _ _ _ hi];have:=eOf_nonneg (x.ep * max 1 S) S;omega
 have hadv:advF bs S F f root x slot=es.foldl (advStep bs S F f root) x:=by rw [hese];rfl
 rw [hadv];have hlen:es.length≤4096:=by rw [hese,endsF_len];omega
 have HES:=lh hese;have HBD:=lh hbd;have HH:=lh h;have HBS:=lh hb;have HBR:=lh hB;have HNR:=lh hN;have HM:=lh hm;have HXB:=lh hxb;have HW:=lh W;have HI:=lh hi;have HOG:=lh og;have HOH:=lh oh;clear h hb hB hN hm hxb W hi hese hbd hadv hes hes1 og oh;unfold ledV cfgV chainV;go_enter Tryz.func52,Tryz.ntmps52
 go_upto_region 1 with (fail)
 refine nmC3 ?_;intro W3 b0 b1 b2 hz hg;obtain ⟨q,hq_q⟩ : ∃ q,q=w.heap.size:=⟨_,rfl⟩;rw [← hq_q] at b0 b1 b2 hz ⊢;have HQ_q:=lh hq_q;clear hq_q;have HB0:=lh b0;have HB1:=lh b1;have HB2:=lh b2;have HG:=lh hg;have HZ:=lh hz;clear b0 b1 b2 hg hz;have HH0:=HH;have HBS0:=HBS;replace HH:=lh (HH.out.g HG.out);replace HBS:=lh (HBS.out.g HG.out);replace HBR:=lh (HBR.out.g HG.out);replace HNR:=lh (HNR.out.g HG.out);obtain ⟨c0,c1,c2⟩:=HB0.out.c3;obtain ⟨d0,d1,d2,d3,d4,d5,d6,d7,d8,d9,d10,d11,d12⟩:=HB1.out.c13;go_wp2_with fail
 refine (ends_calls _ slot S _ (by omega) (by omega) (by omega)).mono ?_;rintro e w4 ⟨v20,rfl,hrow,hg4⟩;rw [← HES.out] at hrow;obtain ⟨wa,wc2,rfl,hI,_⟩:=ints_own hrow;replace HB0:=lh (HB0.out.g hg4);replace HB1:=lh (HB1.out.g hg4);replace HB2:=lh (HB2.out.g hg4);replace HH:=lh (HH.out.g hg4);replace HBS:=lh (HBS.out.g hg4);replace HBR:=lh (HBR.out.g hg4);replace HNR:=lh (HNR.out.g hg4);replace HG:=lh (g2 HG.out hg4);have HE:=lh hI;have hws:=HZ.out;have HEB:=lh (fun ad (ha:wa=some ad)=>show q+3≤ad.block by have:=ints_own_at hrow ad ha;omega);clear hws;have hq3:q+3≤w4.heap.size:=by have h1:=HZ.out;have h2:=hg4.size;omega
 have hqw:=HQ_q.out;have hcur:AdvCur w (q+1) ok bs.length x w4:=⟨_,_,_,_,HB1.out,HBR.out,HNR.out,.inl HOG.out,.inl HOH.out,by omega,by omega⟩;have HC:=lh hcur;clear hg4 hrow hI hcur c0 c1 c2 d0 d1 d2 d3 d4 d5 d6 d7 d8 d9 d10 d11 d12 HB1 HBR HNR HOG HOH hqw;go_wp2_with fail
 go_loopw [22] (fun v22 wr=>∃ (i:Nat) (X:Led),v22=.int .i64 (i:Int)∧i≤es.length∧X=(es.take i).foldl (advStep bs S F f root) x∧LedBd X∧AdvCur w (q+1) ok bs.length X wr∧Chg (fun i=>i=q+1) w4 wr∧w.grownBy wr none)
  (fun v22 _=>es.length - (intOf v22).toNat)
 case atStart=>exact ⟨0,x,rfl,by omega,rfl,HXB.out,HC.out,Chg.refl _ _,HG.out⟩
 case round=>
  obtain ⟨i,X,rfl,hi,hX,hXB,hcur,hch,hgr⟩:=hrel;have HEr:=lh (HE.out.chg hch (fun ad ha=>by have:=HEB.out ad ha;omega));have HB0r:=lh (hch.blk HB0.out (by omega));have HHr:=lh (HH0.out.g hgr);have HBSr:=lh (HBS0.out.g hgr);have HX:=lh hX;have HXBr:=lh hXB;have HCr:=lh hcur;have HCH:=lh hch;have HGr:=lh hgr;clear hX hXB hcur hch hgr;by_cases hlt:i < es.length
  ·obtain ⟨ad,rfl,hce⟩:=HEr.out i hlt;have hb1:=HBD.out i hlt;obtain ⟨hb1,hb2⟩:=hb1;have hfold:(es.take (i+1)).foldl (advStep bs S F f root) x=advStep bs S F f root X (es.getD i 0):=by
    rw [List.take_add_one,List.foldl_append,← HX.out,List.getElem?_eq_getElem hlt,List.getD_eq_getElem?_getD,List.getElem?_eq_getElem hlt];rfl
   obtain ⟨e,hee⟩ : ∃ e,e=es.getD i 0:=⟨_,rfl⟩;rw [← hee] at hce hb1 hb2 hfold;have hwe:IntKind.i64.wrap (e+1)=e+1:=IntWalk.i64_in _ (by omega);have HF:=lh hfold;clear hfold;clear hee;go_upto_block 1 with (fail)
   go_cut [10] (fun _ wx=>AdvCur w (q+1) ok bs.length (advStep bs S F f root X e) wx∧Chg (fun i=>i=q+1) w4 wx∧w.grownBy wx none)
   case first=>
    go_upto_region 4 with (fail)
    obtain ⟨rg,rc,rh,rd,hblk,hbr,hnr,rog,roh,rng,rnh⟩:=HCr.out;obtain ⟨c0,c1,c2⟩:=HB0r.out.c3;have HBLK:=lh hblk;have HBRr:=lh hbr;have HNRr:=lh hnr;have HROG:=lh rog;have HROH:=lh roh;have HRNG:=lh rng;have HRNH:=lh rnh;clear hblk hbr hnr rog roh rng rnh;clear HCr;replace HB0r:=lh (HB0r.out.g (gdrew (gR _ none)));replace HHr:=lh (HHr.out.g (gdrew (gR _ none)));replace HBSr:=lh (HBSr.out.g (gdrew (gR _ none)));replace HBLK:=lh (HBLK.out.g (gdrew (gR _ none)));replace HBRr:=lh (HBRr.out.g (gdrew (gR _ none)));replace HNRr:=lh (HNRr.out.g (gdrew (gR _ none)));replace HGr:=lh (g2 HGr.out (gdrew (gR _ none)));replace HCH:=lh (HCH.out.g (gdrew (gR _ none)));obtain ⟨j0,je,jb,jn⟩:=X;obtain ⟨J,hJ⟩ : ∃ J,J=pullF bs S F f root ⟨j0,je,jb,jn⟩:=⟨_,rfl⟩;have HJ:=lh hJ;clear hJ c0 c1 c2;have TK:=lh fun w (hSw:(AdvS q rg rc rh rd a bs.length c S B bs ⟨j0,je,jb,jn⟩ q1 q2 p tp tb n f F root) w)=>And.intro hSw.1.c3 <| hSw.2.1.c13
    refine wp_region_last (AdvS q rg rc rh rd a bs.length c S B bs ⟨j0,je,jb,jn⟩ q1 q2 p tp tb n f F root) 14 (by as_aux_lemma=>kernel_rfl) (⟨HB0r.out,HBLK.out,HBRr.out,HNRr.out,HHr.out,HBSr.out⟩) ?_;intro hS;generalize wr.drew=wd at HB0r HHr HBSr HBLK HBRr HNRr HGr HCH hS ⊢;refine tL 0 ?_;simp only [zz];refine tL 1 ?_;simp only [zz];refine tL 2 ?_;simp only [zz];refine tL 4 ?_;simp only [zz];refine tL 5 ?_;simp only [zz];refine tL 6 ?_;simp only [zz];refine tL 7 ?_;simp only [zz];refine tL 9 ?_;simp only [zz];refine tL 10 ?_;simp only [zz];refine tL 11 ?_;simp only [zz];refine aL [3,12] (cL 3 (fun K hK=>?_) (cL 12 (fun K hK=>?_) nL))
    ·skip;go_simp;obtain ⟨s0,s1,s2,s3,s4,s5⟩:=id hS;refine (pull_calls s4 HW.out hr s5 rfl HM.out (ok:=fun _=>True) (x:=⟨j0,je,jb,jn⟩) ⟨_,_,_,_,rfl,s2,s3,trivial,trivial⟩ HXBr.out).mono ?_;rintro ev wg ⟨rfl,hgg⟩;rw [← HJ.out];unfold jV;have hS2:=hS.g hgg;try (replace HMK:=lh (HMK.out.g hgg))
     try (replace HAPP:=lh (HAPP.out.g hgg))
     try (replace HCH:=lh (HCH.out.g hgg))
     try (replace HGr:=lh (g2 HGr.out hgg))
     clear hgg s0 s1 s2 s3 s4 s5;go_wp2_with fail
     refine hK.out _ _ (.inl hS2) ?_;replace hS:=hS2;clear hK K hS2;try simp only [zz]
     refine aL [8,12] (cL 8 (fun K hK=>?_) (cL 12 (fun K hK=>?_) nL))
     ·skip;rw [if_pos (by rfl)];obtain ⟨s0,s1,s2,s3,s4,s5⟩:=id hS;refine wp_append_lies _ _ _ 131 (by rfl) _ 4 i0 (.bool false) 1 1 Tryz.underlying131 HI.out.1 HI.out.2.1 HI.out.2.2.1 HI.out.2.2.2 rfl (by decide) (.slice none 0 0) 0 [] (by rfl) (World.ownsRow_nil _ _ _ _) ⟨rh,0,none⟩ bs.length rd (jn.map Value.bool) (by rfl) (by have:=s3.1;simp;omega) (news_bools s3) (bools_one jn) (by omega) (by unfold maxLen;omega) (by omega) (Nat.le_refl _) _ rfl ?_;intro g5 c5 w5 h5 hg5 hat5 hlt5;have hgg:World.grownBy _ w5 none:=hg5;have hS2:=hS.g hgg;rw [Nat.zero_add,List.nil_append] at h5;have hsz:=HGr.out.size;have hg5a:w.heap.size≤g5:=by
       rcases hat5 with h | h
       ·cases h
       ·omega
      have hg5b:q+1+1 < g5:=by
       rcases hat5 with h | h
       ·cases h
       ·have:=HCH.out.size;omega
      try (replace HMK:=lh (HMK.out.g hgg))
      try (replace HCH:=lh (HCH.out.g hgg))
      try (replace HGr:=lh (g2 HGr.out hgg))
      have HAPP:=lh (brow_own h5);have HG5:=lh (And.intro hg5a hg5b);clear hg5 hgg h5 hat5 hlt5 hsz hg5a hg5b s0 s1 s2 s3 s4 s5;refine hK.out _ _ (.inl hS2) ?_;replace hS:=hS2;clear hK K hS2;try simp only [zz]
      refine rL 12 fun K hK=>?_;go_simp;refine nmA1 ?_;intro wm hmb hgg;first | generalize hgm:w5.heap.size=gm at hmb ⊢ | generalize hgm:wg.heap.size=gm at hmb ⊢ | generalize hgm:wd.heap.size=gm at hmb ⊢
      have hS2:=hS.g hgg;have hga:=HGr.out.size;have hgb:q+3≤_:=Nat.le_trans hq3 HCH.out.size;have HGM:=lh (And.intro hga hgb);have HMK:=lh (brow_made hmb);try (replace HAPP:=lh (HAPP.out.g hgg))
      try (replace HCH:=lh (HCH.out.g hgg))
      try (replace HGr:=lh (g2 HGr.out hgg))
      rw [hgm] at HGM;clear hgg hmb hga hgb hgm;refine hK.out _ _ (.inl hS2) ?_;replace hS:=hS2;clear hK K hS2;try simp only [zz]
      refine tL 13 ?_;simp only [zz];refine rL 14 fun K hK=>?_;obtain ⟨s0,s1,s2,s3,s4,s5⟩:=id hS;obtain ⟨d0,d1,d2,d3,d4,d5,d6,d7,d8,d9,d10,d11,d12⟩:=s1.c13;obtain ⟨f0,f1,f2,f3,f4,f5,f6,f7,f8,f9,f10,f11,f12⟩:=s1.f13;go_simp;refine hK.out _ _ (.inr rfl) ?_;clear hK K;try simp only [zz]
      refine dL ?_ _;go_wp2_with fail
      go_meet
      obtain ⟨t1,_,t3⟩:=put13 (.bool J.b0) (.bool J.b1) (.bool J.b2) (.bool J.b3) (.int .i64 J.pe) (.int .u64 J.pr) (.int .i64 J.ce) (.int .u64 J.cr) (.int .i64 J.fe) (.int .u64 J.fr) (.int .i64 (e+1)) (.slice (some ⟨g5,0,none⟩) bs.length c5) (.slice (some ⟨gm,0,none⟩) bs.length bs.length) s1;have t4:=Chg.one (S:=fun i=>i=q+1) t3 rfl;have hqw:=HQ_q.out;have h51:=HG5.out.1;have h52:=HG5.out.2;have hm1:=HGM.out.1;have hm2:=HGM.out.2;have hst:advStep bs S F f root ⟨j0,je,jb,jn⟩ e=⟨J,e+1,jn,List.replicate bs.length false⟩:=by unfold advStep;rw [← HJ.out]
      rw [hst];refine ⟨⟨_,_,_,_,t1,HAPP.out.chg t4 (by omega),HMK.out.chg t4 (by omega),.inr h51,.inr hm1,.inr (by omega),.inr (by omega)⟩,HCH.out.trans t4,gnew HGr.out t3 (by omega)⟩
     ·skip;go_simp;refine nmA1 ?_;intro wm hmb hgg;first | generalize hgm:w5.heap.size=gm at hmb ⊢ | generalize hgm:wg.heap.size=gm at hmb ⊢ | generalize hgm:wd.heap.size=gm at hmb ⊢
      have hS2:=hS.g hgg;have hga:=HGr.out.size;have hgb:q+3≤_:=Nat.le_trans hq3 HCH.out.size;have HGM:=lh (And.intro hga hgb);have HMK:=lh (brow_made hmb);try (replace HAPP:=lh (HAPP.out.g hgg))
      try (replace HCH:=lh (HCH.out.g hgg))
      try (replace HGr:=lh (g2 HGr.out hgg))
      rw [hgm] at HGM;clear hgg hmb hga hgb hgm;refine hK.out _ _ (.inl hS2) ?_;replace hS:=hS2;clear hK K hS2;try simp only [zz]
      refine rL 8 fun K hK=>?_;rw [if_pos (by rfl)];obtain ⟨s0,s1,s2,s3,s4,s5⟩:=id hS;refine wp_append_lies _ _ _ 131 (by rfl) _ 4 i0 (.bool false) 1 1 Tryz.underlying131 HI.out.1 HI.out.2.1 HI.out.2.2.1 HI.out.2.2.2 rfl (by decide) (.slice none 0 0) 0 [] (by rfl) (World.ownsRow_nil _ _ _ _) ⟨rh,0,none⟩ bs.length rd (jn.map Value.bool) (by rfl) (by have:=s3.1;simp;omega) (news_bools s3) (bools_one jn) (by omega) (by unfold maxLen;omega) (by omega) (Nat.le_refl _) _ rfl ?_;intro g5 c5 w5 h5 hg5 hat5 hlt5;have hgg:World.grownBy _ w5 none:=hg5;have hS2:=hS.g hgg;rw [Nat.zero_add,List.nil_append] at h5;have hsz:=HGr.out.size;have hg5a:w.heap.size≤g5:=by
       rcases hat5 with h | h
       ·cases h
       ·omega
      have hg5b:q+1+1 < g5:=by
       rcases hat5 with h | h
       ·cases h
       ·have:=HCH.out.size;omega
      try (replace HMK:=lh (HMK.out.g hgg))
      try (replace HCH:=lh (HCH.out.g hgg))
      try (replace HGr:=lh (g2 HGr.out hgg))
      have HAPP:=lh (brow_own h5);have HG5:=lh (And.intro hg5a hg5b);clear hg5 hgg h5 hat5 hlt5 hsz hg5a hg5b s0 s1 s2 s3 s4 s5;refine hK.out _ _ (.inl hS2) ?_;replace hS:=hS2;clear hK K hS2;try simp only [zz]
      refine tL 13 ?_;simp only [zz];refine rL 14 fun K hK=>?_;obtain ⟨s0,s1,s2,s3,s4,s5⟩:=id hS;obtain ⟨d0,d1,d2,d3,d4,d5,d6,d7,d8,d9,d10,d11,d12⟩:=s1.c13;obtain ⟨f0,f1,f2,f3,f4,f5,f6,f7,f8,f9,f10,f11,f12⟩:=s1.f13;go_simp;refine hK.out _ _ (.inr rfl) ?_;clear hK K;try simp only [zz]
      refine dL ?_ _;go_wp2_with fail
      go_meet
      obtain ⟨t1,_,t3⟩:=put13 (.bool J.b0) (.bool J.b1) (.bool J.b2) (.bool J.b3) (.int .i64 J.pe) (.int .u64 J.pr) (.int .i64 J.ce) (.int .u64 J.cr) (.int .i64 J.fe) (.int .u64 J.fr) (.int .i64 (e+1)) (.slice (some ⟨g5,0,none⟩) bs.length c5) (.slice (some ⟨gm,0,none⟩) bs.length bs.length) s1;have t4:=Chg.one (S:=fun i=>i=q+1) t3 rfl;have hqw:=HQ_q.out;have h51:=HG5.out.1;have h52:=HG5.out.2;have hm1:=HGM.out.1;have hm2:=HGM.out.2;have hst:advStep bs S F f root ⟨j0,je,jb,jn⟩ e=⟨J,e+1,jn,List.replicate bs.length false⟩:=by unfold advStep;rw [← HJ.out]
      rw [hst];refine ⟨⟨_,_,_,_,t1,HAPP.out.chg t4 (by omega),HMK.out.chg t4 (by omega),.inr h51,.inr hm1,.inr (by omega),.inr (by omega)⟩,HCH.out.trans t4,gnew HGr.out t3 (by omega)⟩
    ·skip;go_simp;refine nmA1 ?_;intro wm hmb hgg;first | generalize hgm:w5.heap.size=gm at hmb ⊢ | generalize hgm:wg.heap.size=gm at hmb ⊢ | generalize hgm:wd.heap.size=gm at hmb ⊢
     have hS2:=hS.g hgg;have hga:=HGr.out.size;have hgb:q+3≤_:=Nat.le_trans hq3 HCH.out.size;have HGM:=lh (And.intro hga hgb);have HMK:=lh (brow_made hmb);try (replace HAPP:=lh (HAPP.out.g hgg))
     try (replace HCH:=lh (HCH.out.g hgg))
     try (replace HGr:=lh (g2 HGr.out hgg))
     rw [hgm] at HGM;clear hgg hmb hga hgb hgm;refine hK.out _ _ (.inl hS2) ?_;replace hS:=hS2;clear hK K hS2;try simp only [zz]
     refine rL 3 fun K hK=>?_;go_simp;obtain ⟨s0,s1,s2,s3,s4,s5⟩:=id hS;refine (pull_calls s4 HW.out hr s5 rfl HM.out (ok:=fun _=>True) (x:=⟨j0,je,jb,jn⟩) ⟨_,_,_,_,rfl,s2,s3,trivial,trivial⟩ HXBr.out).mono ?_;rintro ev wg ⟨rfl,hgg⟩;rw [← HJ.out];unfold jV;have hS2:=hS.g hgg;try (replace HMK:=lh (HMK.out.g hgg))
     try (replace HAPP:=lh (HAPP.out.g hgg))
     try (replace HCH:=lh (HCH.out.g hgg))
     try (replace HGr:=lh (g2 HGr.out hgg))
     clear hgg s0 s1 s2 s3 s4 s5;go_wp2_with fail
     refine hK.out _ _ (.inl hS2) ?_;replace hS:=hS2;clear hK K hS2;try simp only [zz]
     refine rL 8 fun K hK=>?_;rw [if_pos (by rfl)];obtain ⟨s0,s1,s2,s3,s4,s5⟩:=id hS;refine wp_append_lies _ _ _ 131 (by rfl) _ 4 i0 (.bool false) 1 1 Tryz.underlying131 HI.out.1 HI.out.2.1 HI.out.2.2.1 HI.out.2.2.2 rfl (by decide) (.slice none 0 0) 0 [] (by rfl) (World.ownsRow_nil _ _ _ _) ⟨rh,0,none⟩ bs.length rd (jn.map Value.bool) (by rfl) (by have:=s3.1;simp;omega) (news_bools s3) (bools_one jn) (by omega) (by unfold maxLen;omega) (by omega) (Nat.le_refl _) _ rfl ?_;intro g5 c5 w5 h5 hg5 hat5 hlt5;have hgg:World.grownBy _ w5 none:=hg5;have hS2:=hS.g hgg;rw [Nat.zero_add,List.nil_append] at h5;have hsz:=HGr.out.size;have hg5a:w.heap.size≤g5:=by
      rcases hat5 with h | h
      ·cases h
      ·omega
     have hg5b:q+1+1 < g5:=by
      rcases hat5 with h | h
      ·cases h
      ·have:=HCH.out.size;omega
     try (replace HMK:=lh (HMK.out.g hgg))
     try (replace HCH:=lh (HCH.out.g hgg))
     try (replace HGr:=lh (g2 HGr.out hgg))
     have HAPP:=lh (brow_own h5);have HG5:=lh (And.intro hg5a hg5b);clear hg5 hgg h5 hat5 hlt5 hsz hg5a hg5b s0 s1 s2 s3 s4 s5;refine hK.out _ _ (.inl hS2) ?_;replace hS:=hS2;clear hK K hS2;try simp only [zz]
     refine tL 13 ?_;simp only [zz];refine rL 14 fun K hK=>?_;obtain ⟨s0,s1,s2,s3,s4,s5⟩:=id hS;obtain ⟨d0,d1,d2,d3,d4,d5,d6,d7,d8,d9,d10,d11,d12⟩:=s1.c13;obtain ⟨f0,f1,f2,f3,f4,f5,f6,f7,f8,f9,f10,f11,f12⟩:=s1.f13;go_simp;refine hK.out _ _ (.inr rfl) ?_;clear hK K;try simp only [zz]
     refine dL ?_ _;go_wp2_with fail
     go_meet
     obtain ⟨t1,_,t3⟩:=put13 (.bool J.b0) (.bool J.b1) (.bool J.b2) (.bool J.b3) (.int .i64 J.pe) (.int .u64 J.pr) (.int .i64 J.ce) (.int .u64 J.cr) (.int .i64 J.fe) (.int .u64 J.fr) (.int .i64 (e+1)) (.slice (some ⟨g5,0,none⟩) bs.length c5) (.slice (some ⟨gm,0,none⟩) bs.length bs.length) s1;have t4:=Chg.one (S:=fun i=>i=q+1) t3 rfl;have hqw:=HQ_q.out;have h51:=HG5.out.1;have h52:=HG5.out.2;have hm1:=HGM.out.1;have hm2:=HGM.out.2;have hst:advStep bs S F f root ⟨j0,je,jb,jn⟩ e=⟨J,e+1,jn,List.replicate bs.length false⟩:=by unfold advStep;rw [← HJ.out]
     rw [hst];refine ⟨⟨_,_,_,_,t1,HAPP.out.chg t4 (by omega),HMK.out.chg t4 (by omega),.inr h51,.inr hm1,.inr (by omega),.inr (by omega)⟩,HCH.out.trans t4,gnew HGr.out t3 (by omega)⟩
   case rest=>
    obtain ⟨hcur,hch,hgr⟩:=hcut;have hbd2:LedBd (advStep bs S F f root X e):=⟨pullF_bd HW.out HXBr.out,by show 0≤e+1;omega,by show e+1≤1099511627776;omega⟩;have HC2:=lh hcur;have HD2:=lh hch;have HE2:=lh hgr;have HF2:=lh hbd2;clear hcur hch hgr hbd2;go_wp2;exact ⟨⟨i+1,advStep bs S F f root X e,by simp,by omega,HF.out.symm,HF2.out,HC2.out,HD2.out,HE2.out⟩,by simp [intOf];omega⟩
  ·have hie:i=es.length:=by omega
   subst hie;have hXe:=HX.out;rw [List.take_length] at hXe;have HXE:=lh hXe;clear hXe;obtain ⟨rg,rc,rh,rd,hblk,hbr,hnr,rog,roh,rng,rnh⟩:=HCr.out;have hb2:=HCH.out.blk HB2.out (by omega);have HBLK:=lh hblk;have HBRr:=lh hbr;have HNRr:=lh hnr;have HR2:=lh hb2;have HROG:=lh rog;have HROH:=lh roh;have HRNG:=lh rng;have HRNH:=lh rnh;clear hblk hbr hnr hb2 rog roh rng rnh;obtain ⟨d0,d1,d2,d3,d4,d5,d6,d7,d8,d9,d10,d11,d12⟩:=HBLK.out.c13;obtain ⟨e0,e1,e2,e3,e4,e5,e6,e7,e8,e9,e10,e11,e12⟩:=HR2.out.c13;obtain ⟨f0,f1,f2,f3,f4,f5,f6,f7,f8,f9,f10,f11,f12⟩:=HR2.out.f13;go_wp2;obtain ⟨t1,_,t3⟩:=put13 (.bool X.j.b0) (.bool X.j.b1) (.bool X.j.b2) (.bool X.j.b3) (.int .i64 X.j.pe) (.int .u64 X.j.pr) (.int .i64 X.j.ce) (.int .u64 X.j.cr) (.int .i64 X.j.fe) (.int .u64 X.j.fr) (.int .i64 X.ep) (.slice (some ⟨rg,0,none⟩) bs.length rc) (.slice (some ⟨rh,0,none⟩) bs.length rd) HR2.out;have t4:=gnew HGr.out t3 (by have:=HQ_q.out;omega);have t5:=Chg.one (S:=fun i=>i=q+1+1) t3 rfl;have hr1:=HRNG.out;have hr2:=HRNH.out;rw [← HXE.out];exact bodyPost_ret (res52 rfl t1) rfl ⟨_,rfl,⟨rg,rc,rh,rd,rfl,HBRr.out.chg t5 (by omega),HNRr.out.chg t5 (by omega),HROG.out,HROH.out⟩,HXBr.out,t4⟩
end Go.Proofs.YtndfpmboanohcaaGreatDoor
