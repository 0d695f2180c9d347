/- Contract of the maker's vote. -/
import Derived.Test.YtndfpmboanohcaaGreatDoorSmgToMka
namespace Go.Proofs.YtndfpmboanohcaaGreatDoor
set_option maxRecDepth 100000
open Go.RowKit Go.Maps SkipPure
theorem own_slice2 {w:World} {base:Nat} {e:TypeId} {size n:Nat} {v:Value} {xs:List Value} (h:w.ownsRow base e size v n xs) : ∃ a k,v=.slice a n k∧(0 < n→∃ g,a=some ⟨g,0,none⟩)∧∀ ad,a=some ad→∃ g,ad=⟨g,0,none⟩:=by
 rcases h.2 with ⟨rfl,hn⟩ | ⟨g,cap,cur,rfl,_⟩
 ·exact ⟨none,0,by rw [hn],fun h=>by omega,fun ad e=>by cases e⟩
 ·exact ⟨_,_,rfl,fun _=>⟨g,rfl⟩,fun ad e=>⟨g,by cases e;rfl⟩⟩
theorem row_kept {w w':World} {base n b:Nat} {e T:TypeId} {size:Nat} {v:Value} {xs:List Value} {cs:Array Value} (h:w.ownsRow base e size v n xs) (hc:Chg (fun i=>i=b) w w') (hb:w.heap[b]? = some (.cells cs T (0,0))) (hT:T≠e):w'.ownsRow base e size v n xs:=
 rowChg h hc (fun k hk e=>by
  obtain ⟨cur,hcur⟩:=ownsRow_ty h hk;rw [e,hb] at hcur;cases hcur;exact hT rfl)
theorem row_apart {w w':World} {base n n2 base2:Nat} {e T:TypeId} {size size2:Nat} {v v2:Value} {xs xs2:List Value} (h:w.ownsRow base e size v n xs) (h2:w.ownsRow base2 T size2 v2 n2 xs2) (hg:w.grownBy w' v2.ownBlock) (hT:T≠e):w'.ownsRow base e size v n xs:=by
 cases hb:v2.ownBlock with
 | none=>rw [hb] at hg;exact ownsRow_g h hg
 | some b=>
  rw [hb] at hg;obtain ⟨cur,hcur⟩:=ownsRow_ty h2 hb;exact row_kept h (Chg.one hg rfl) hcur hT
theorem who_row {w:World} {base c:Nat} {a:Option Addr} {xs:List Int} (h:w.ownsRow base 3 1 (.slice a xs.length c) xs.length (xs.map (Value.int .i64))):Ints .i64 w a xs∧∀ ad,a=some ad→(base≤ad.block∧ad.block < w.heap.size)∧ad.spot=none:=by
 obtain ⟨a2,c2,e,h1,h2⟩:=own_slice2 h;cases e;refine ⟨?_,fun ad e=>?_⟩
 ·rcases Nat.eq_zero_or_pos xs.length with h0 | h0
  ·intro i hi;omega
  ·obtain ⟨g,rfl⟩:=h1 h0;exact ints_of_own h
 ·obtain ⟨g,rfl⟩:=h2 ad e;subst e;exact ⟨h.lt g rfl,rfl⟩
theorem res_cell {fn:Func} {p:Tmp} {ty:TypeId} {P:Program} {W:World} {tmps:Array Value} {r:Nat} {cs:Array Value} (h:fn.results=#[.cell p ty]) (ht:tmps[p]?.getD undef=.pointer (some ⟨r,0,none⟩))
  (hl:(loadVar ty ⟨r,0,none⟩).run P W=.ok (.agg cs) W):(results fn tmps).run P W=.ok (.agg cs) W:=by
 simp only [results,h];simp [ht,asAddr,hl]
theorem wpList_store_blk {P:Program} {ops:Array Oper} {rest:List Oper} {o:Oper} {a:Act} {w:World} {Q:Exit→Act→World→Prop} {g:Nat} {old:Array Value} {T ty:TypeId} (h:Blk w g old T) (hgd:o.guard=none)
  (cells:Array Value) (ho : ∃ x y,o.op=.store ty x y∧a.eval x=.pointer (some ⟨g,0,none⟩)∧a.eval y=.agg cells) (hi:(P.info? ty).map (·.size)=some cells.size) (hold:old.size=cells.size) (h1:cells.all (·.oneCell')=true)
  (hK : ∀ w',Blk w' g cells T→w.grownBy w' (some g)→wpList P ops Q rest (a.put o.dst undef) w'):wpList P ops Q (o :: rest) a w:=by
 obtain ⟨x,y,ho,hx,hy⟩:=ho;exact wpList_store_row hgd ty x y ho g cells hx hy T old h hi hold h1 (hK _ (setRow_heap w g old cells T (0,0) h) ⟨rfl,rfl,rfl,by simp,fun k _ hk=>setRow_other w g k cells (fun e=>hk (by rw [e]))⟩)
def vtC (sl hd se sr te tr:Int) (who:Value):Array Value:=#[.int .i64 sl,.int .u64 hd,.int .i64 se,.int .u64 sr,.int .i64 te,.int .u64 tr,who]
structure VS (w0 w:World) (mp p q qc:Nat) (vb:Value) (nb:Option Nat) (cf vc:Array Value):Prop where
 mm:Mk w mp p vb nb
 b0:Blk w q (vtC 0 0 0 0 0 0 (.slice none 0 0)) 64
 b1:Blk w qc cf 36
 b2:Blk w (qc+1) vc 64
 chg:Chg (fun i=>i=mp) w0 w
section
variable {w0 w w':World} {mp p q qc base:Nat} {vb:Value} {nb:Option Nat} {cf vc:Array Value}
theorem VS.g (h:VS w0 w mp p q qc vb nb cf vc) (hg:w.grownBy w' none):VS w0 w' mp p q qc vb nb cf vc:=⟨h.mm.g hg,h.b0.g hg,h.b1.g hg,h.b2.g hg,h.chg.trans (Chg.of hg)⟩
theorem VS.num (h:VS w0 w mp p q qc vb nb cf vc) (hm:Mk w' mp p vb nb) (hc:Chg (fun i=>i=mp) w w') (h1:mp < q) (h2:q < qc):VS w0 w' mp p q qc vb nb cf vc:=
 ⟨hm,hc.blk h.b0 (by omega),hc.blk h.b1 (by omega),hc.blk h.b2 (by omega),h.chg.trans hc⟩
theorem VS.own (h:VS w0 w mp p q qc vb nb cf vc) {b:Nat} (hg:w.grownBy w' (some b)) (hb:w0.heap.size≤b) (h1:b≠mp) (h2:b≠q) (h3:b≠qc) (h4:b≠qc+1) (hn : ∀ k,nb=some k→k < w0.heap.size):VS w0 w' mp p q qc vb nb cf vc:=by
 have hc:Chg (fun i=>i=b) w w':=Chg.one hg rfl;exact ⟨h.mm.chg hc (Ne.symm h1) (fun k hk e=>by have:=hn k hk;omega),hc.blk h.b0 (Ne.symm h2),hc.blk h.b1 (Ne.symm h3),hc.blk h.b2 (Ne.symm h4),h.chg.then hc (fun i e=>.inr (by omega))⟩
theorem VS.row (h:VS w0 w mp p q qc vb nb cf vc) {who:Value} {n:Nat} {xs:List Value} (hr:w.ownsRow w0.heap.size 3 1 who n xs) (hg:w.grownBy w' who.ownBlock) (hn : ∀ k,nb=some k→k < w0.heap.size):VS w0 w' mp p q qc vb nb cf vc:=by
 cases hb:who.ownBlock with
 | none=>
  rw [hb] at hg;exact h.g hg
 | some b=>
  rw [hb] at hg;obtain ⟨cur,hcur⟩:=ownsRow_ty hr hb;have hno : ∀ {k:Nat} {cs:Array Value} {T:TypeId},Blk w k cs T→T≠3→b≠k:=fun hk hT e=>by
   subst e;unfold Blk at hk;rw [hk] at hcur;cases hcur;exact hT rfl
  exact h.own hg (hr.lt b hb).1 (h.mm.ne hcur (by decide)) (hno h.b0 (by decide)) (hno h.b1 (by decide)) (hno h.b2 (by decide)) hn
theorem VS.put (h:VS w0 w mp p q qc vb nb cf vc) {vc':Array Value} (hb:Blk w' (qc+1) vc' 64) (hg:w.grownBy w' (some (qc+1))) (h0:w0.heap.size≤q) (h1:mp < q) (h2:q < qc) (hn : ∀ k,nb=some k→k < w0.heap.size):VS w0 w' mp p q qc vb nb cf vc':=by
 have hc:Chg (fun i=>i=qc+1) w w':=Chg.one hg rfl;exact ⟨h.mm.chg hc (by omega) (fun k hk e=>by have:=hn k hk;omega),hc.blk h.b0 (by omega),hc.blk h.b1 (by omega),hb,h.chg.then hc (fun i e=>.inr (by omega))⟩
end
section
variable {w:World} {I:Ids} {σ:St} {N mp base:Nat} {vb:Value} {nb:Option Nat} {bl:List Int}
set_option maxHeartbeats 8000000 in
theorem vote_calls (h:StoreAt w I σ) (hI:Inv σ N) (hb6:σ.bs.length=6) (hm:Mk w mp I.p vb nb) (hbl:Bls w base vb bl) (hx:I.ex mp) (hnb : ∀ k,nb=some k→k < w.heap.size) {hd sl:Int} (hh:inU hd) (hs0:0≤sl) (hs1:sl≤1099511627776) :
  Calls Tryz.prog 34 #[.pointer (some ⟨mp,0,none⟩),.int .u64 hd,.int .i64 sl] w fun e w'=>∃ v vw vc,e=.returned (vtV v vw vc)∧VtB v∧w'.ownsRow w.heap.size 3 1 (.slice vw v.who.length vc) v.who.length (v.who.map (Value.int .i64)) ∧
   Mk w' mp I.p vb nb∧Chg (fun i=>i=mp) w w':=by
 have HH:=lh h;have HM:=lh hm;have HBL:=lh hbl;have hpl:=h.blk.lt;have hml:=hm.lt;have HI:=lh hI;have HX:=lh hx;clear hI hx;have h0:=h;have HBL0:=lh (And.intro hbl (hbl.ne hm));clear h hm hbl;go_enter Tryz.func34,Tryz.ntmps34
 go_upto_region 1 with (fail)
 refine nmC1 ?_;intro W b0 hz hg;obtain ⟨q,hq_q⟩ : ∃ q,q=w.heap.size:=⟨_,rfl⟩;rw [← hq_q] at b0 hz hpl hml ⊢;have HQ_q:=lh hq_q;clear hq_q;have HB0:=lh b0;replace HH:=lh (HH.out.g hg);replace HM:=lh (HM.out.g hg);replace HBL:=lh (HBL.out.g hg);have HG:=lh (Chg.of (S:=fun i=>i=mp) hg);have m0:=HM.out.c0;have s0:=HH.out.s0;have s1:=HH.out.s1;have s2:=HH.out.s2;clear b0 hg hz;have hN1:=HI.out.wf.may.l1;have hS1:=HI.out.wf.may.s1;have hS2:=HI.out.wf.may.s2;have HB6:=lh hb6;obtain ⟨n,hn⟩ : ∃ n,n=σ.bs.length:=⟨_,rfl⟩;rw [← hn] at s0 hN1;have hn6:n≤6:=by omega
 clear hb6 hn;go_upto_region 3 with (fail)
 clear m0 s0 s1 s2;refine nmC2 ?_;intro W2 b1 b2 hz hg;have hqW:q < W.heap.size:=HB0.out.lt;have hmW:mp < W.heap.size:=HM.out.lt;obtain ⟨qc,hq_qc⟩ : ∃ q,q=W.heap.size:=⟨_,rfl⟩;rw [← hq_qc] at b1 b2 hz hqW hmW ⊢;have HQ_qc:=lh hq_qc;clear hq_qc;have HB1:=lh b1;have HB2:=lh b2;replace HH:=lh (HH.out.g hg);replace HM:=lh (HM.out.g hg);replace HBL:=lh (HBL.out.g hg);replace HB0:=lh (HB0.out.g hg);replace HG:=lh (HG.out.trans (Chg.of hg));clear b1 b2 hg hz;have d1:=HB1.out.at 1;go_wp2_with (go_at_call 47;refine (eof_calls sl σ.S _ (by omega) (by omega)).mono ?_;rintro e wg ⟨rfl,rfl⟩)
 clear d1;obtain ⟨ep,hep⟩ : ∃ ep,ep=eOf sl σ.S:=⟨_,rfl⟩;have hst:eStart ep σ.S≤9223372036854775807:=by
  rw [hep];exact eStart_le (by have:=eOf_le sl σ.S;omega) hS2
 rw [← hep];clear hep;have HST:=lh hst;obtain ⟨cf,hcf⟩ : ∃ cf:Array Value,cf=#[.slice I.ba n I.bc,.int .i64 σ.S,.int .i64 σ.B]:=⟨_,rfl⟩;have hvs:VS w W2 mp I.p q qc vb nb cf (vtC sl hd 0 0 0 0 (.slice none 0 0)):=⟨HM.out,HB0.out,by rw [hcf];exact HB1.out,HB2.out,HG.out⟩;have HVS:=lh hvs;have hqw:w.heap.size≤q:=Nat.le_of_eq HQ_q.out.symm;have H0:=lh (show StoreAt w I σ from h0);have HCF:=lh hcf;have HNB:=lh hnb;clear hcf hnb;clear hst hvs HH HM HB0 HB1 HB2 HG;refine wp_region_late (fun wr=>VS w wr mp I.p q qc vb nb cf (vtC sl hd 0 0 0 0 (.slice none 0 0))∧StoreAt wr I σ) [16] (by as_aux_lemma=>kernel_rfl) ?_;have hgd:=gdrew (gR W2 none);have hS:(fun wr=>VS w wr mp I.p q qc vb nb cf (vtC sl hd 0 0 0 0 (.slice none 0 0))∧StoreAt wr I σ) W2.drew:=by
  have h:=HVS.out.g hgd;exact ⟨h,H0.out.exch h.chg (fun i e=>by rw [e];exact HX.out)⟩
 clear hgd HVS;generalize W2.drew=w2 at hS ⊢;refine pM 0 ?_;simp only [zz];refine pM 1 ?_;simp only [zz];refine pM 2 ?_;simp only [zz];refine pM 3 ?_;simp only [zz];refine pM 8 ?_;simp only [zz];refine pM 9 ?_;simp only [zz];refine pM 10 ?_;simp only [zz];refine wM 4 ?_ ?_ hS ?_;rotate_left;· intro w hSw;have m0:=hSw.1.mm.c0;have s3:=hSw.2.s3;have d1:w.cell? ⟨qc,1,none⟩=some (.int .i64 σ.S):=(by have h:=hSw.1.b1;rw [HCF.out] at h;exact h.at 1);go_simp;try with_reducible rfl
 simp only [zz];refine pM 5 ?_;simp only [zz];refine pM 6 ?_;simp only [zz];refine wM 7 ?_ ?_ hS ?_;rotate_left;· intro w hSw;have m0:=hSw.1.mm.c0;have s3:=hSw.2.s3;have d1:w.cell? ⟨qc,1,none⟩=some (.int .i64 σ.S):=(by have h:=hSw.1.b1;rw [HCF.out] at h;exact h.at 1);go_simp;try with_reducible rfl
 simp only [zz];refine wM 11 ?_ ?_ hS ?_;rotate_left;· intro w hSw;have m0:=hSw.1.mm.c0;have s3:=hSw.2.s3;have d1:w.cell? ⟨qc,1,none⟩=some (.int .i64 σ.S):=(by have h:=hSw.1.b1;rw [HCF.out] at h;exact h.at 1);go_simp;try with_reducible rfl
 simp only [zz];refine rM 12 fun K hK=>?_;go_simp;refine (estart_calls ep σ.S _ HST.out).mono ?_;rintro e w3 ⟨rfl,rfl⟩;have hS2:=hS;refine hK.out _ _ (.inl (fun _=>hS2)) ?_;replace hS:=hS2;clear hK K hS2;try simp only [zz]
 refine rM 13 fun K hK=>?_;go_simp;refine (tat_calls hS.2.tree HI.out.wf.tree hh _).mono ?_;rintro e w4 ⟨rfl,hg⟩;have hS2:(fun wr=>_) w4:=And.intro (hS.1.g hg) (hS.2.g hg);generalize atT σ.F σ.f hd (eStart ep σ.S)=tr;clear hg;refine hK.out _ _ (.inl (fun _=>hS2)) ?_;replace hS:=hS2;clear hK K hS2;try simp only [zz]
 refine pM 14 ?_;simp only [zz];refine pM 15 ?_;simp only [zz];refine rM 16 fun K hK=>?_;have hb:=hS.1.b2;have e4:w4.cell? ⟨qc+1,4,none⟩=some (.int .i64 0):=hb.at 4;have e5:w4.cell? ⟨qc+1,5,none⟩=some (.int .u64 0):=hb.at 5;have f4:=hb.fr 4;have f5:=hb.fr 5;go_simp;refine hK.out _ _ (.inr (by decide)) ?_;clear hK K;try simp only [zz]
 refine dM ?_ _;obtain ⟨t1,_,t3⟩:=sto2 4 5 (.int .i64 ep) (.int .u64 tr) hS.1.b2;have hb2:Blk _ (qc+1) (vtC sl hd 0 0 ep tr (.slice none 0 0)) 64:=t1;have hvs:=hS.1.put hb2 t3 hqw hml hqW HNB.out;clear hS t1 t3 hb2;generalize (w4.setCell ⟨qc+1,4,none⟩ (.int .i64 ep)).setCell ⟨qc+1,5,none⟩ (.int .u64 tr)=w5 at hvs ⊢;have HVS:=lh hvs;have hst:=H0.out.exch hvs.chg (fun i e=>by rw [e];exact HX.out);have m0:=hvs.mm.c0;have s7:=hst.s7;have s8:=hst.s8;have e2:w5.cell? ⟨qc+1,2,none⟩=some (.int .i64 0):=hvs.b2.at 2;have e3:w5.cell? ⟨qc+1,3,none⟩=some (.int .u64 0):=hvs.b2.at 3;have f2:=hvs.b2.fr 2;have f3:=hvs.b2.fr 3;clear hvs hst;go_upto_region 6 with (fail)
 obtain ⟨t1,_,t3⟩:=sto2 2 3 (.int .i64 σ.je) (.int .u64 σ.jr) HVS.out.b2;have hb2:Blk _ (qc+1) (vtC sl hd σ.je σ.jr ep tr (.slice none 0 0)) 64:=t1;have hvs:=HVS.out.put hb2 t3 hqw hml hqW HNB.out;clear HVS t1 t3 hb2 m0 s7 s8 e2 e3 f2 f3;generalize (w5.setCell ⟨qc+1,2,none⟩ (.int .i64 σ.je)).setCell ⟨qc+1,3,none⟩ (.int .u64 σ.jr)=w6 at hvs ⊢;have HVS:=lh hvs;clear hvs;go_wp2_with fail
 obtain ⟨vg,vcap,hvf,_⟩:=HBL.out.form;have HVF:Hid (∃ a n c,vb=.slice a n c):=lh ⟨_,_,_,hvf⟩;clear hvf;refine (mnext_calls HVS.out.mm HVF.out (n:=64) (by omega)).mono ?_;rintro e w7 ⟨x,rfl,hx0,hx1,hm,hg⟩;have hvs:=HVS.out.num hm (Chg.one hg rfl) hml hqW;clear HVS hm hg;have HVS:=lh hvs;clear hvs;go_wp2_with fail
 refine (mnext_calls HVS.out.mm HVF.out (n:=4) (by omega)).mono ?_;rintro e w8 ⟨y,rfl,hy0,hy1,hm,hg⟩;have hvs:=HVS.out.num hm (Chg.one hg rfl) hml hqW;clear HVS hm hg;have HVS:=lh hvs;clear hvs;go_upto_if 54 with (fail)
 go_cut [10] (fun s10 wx=>∃ k:Int,s10=.int .i64 k∧w8.grownBy wx none)
 case first=>
  by_cases h0:0 < y
  ·go_wp2_with fail
   go_meet
   exact ⟨_,rfl,gR _ _⟩
  ·go_wp2_with fail
   go_meet
   exact ⟨_,rfl,gR _ _⟩
 case rest=>
  obtain ⟨k,rfl,hg⟩:=hcut;replace HVS:=lh (HVS.out.g hg);clear hg hx0 hx1 hy0 hy1;have d0:wc.cell? ⟨qc,0,none⟩=some (.slice I.ba n I.bc):=(by have h:=HVS.out.b1;rw [HCF.out] at h;exact h.at 0);go_wp2_with fail
  clear d0
  go_loopw [61] (fun v61 wr=>∃ (j:Nat),v61=.int .i64 (j:Int)∧j≤n∧∃ (ks:List Int) (who:Value),VS w wr mp I.p q qc vb nb cf (vtC sl hd σ.je σ.jr ep tr who)∧wr.ownsRow w.heap.size 3 1 who ks.length (ks.map (Value.int .i64))∧ks.length≤j) (fun v61 _=>n - (intOf v61).toNat)
  case atStart=>exact ⟨0,rfl,by omega,[],_,HVS.out,World.ownsRow_nil _ _ _ _,by simp⟩
  case round=>
   obtain ⟨j,rfl,hj,ks,who,hvs,hrow,hkl⟩:=hrel;clear HVS;have HVS:=lh hvs;have HROW:=lh hrow;clear hvs hrow;by_cases hlt:j < n
   ·go_upto_if 68 with (fail)
    generalize (bits BinOp.and IntKind.i64 k (wrap64 (2 ^ j)) != 0)=B;cases B
    ·go_wp2_with fail
     exact ⟨⟨j+1,by simp,by omega,ks,who,HVS.out,HROW.out,by omega⟩,by simp [intOf];omega⟩
    ·obtain ⟨i0,hi0⟩:=elem_i64;have HI0:=lh hi0;clear hi0;have e6:wr.cell? ⟨qc+1,6,none⟩=some who:=HVS.out.b2.at 6;have hsz:=HVS.out.chg.size;go_upto_region 13 with (fail)
     go_wp2_with (at_builtin;refine wpList_push rfl _ _ 62 rfl w.heap.size 3 i0 (.int .i64 0) 1 8 Tryz.underlying62 HI0.out rfl (by decide) _ ks.length (ks.map (Value.int .i64)) rfl HROW.out rfl rfl (by simp [Value.oneCell']) (by unfold maxLen;omega) (by omega) hsz ?_;intro v6 w6 h6 hg6;obtain ⟨a6,c6,rfl,_⟩:=own_slice h6;have hv6:=HVS.out.row HROW.out hg6 HNB.out;have e6:w6.cell? ⟨qc+1,6,none⟩=some who:=hv6.b2.at 6;have f6:=hv6.b2.fr 6;have H6:=lh (And.intro h6 hv6);clear h6 hg6 hv6)
     obtain ⟨t1,_,t3⟩:=sto1 6 (.slice a6 (ks.length+1) c6) H6.out.2.b2;have hb2:Blk _ (qc+1) (vtC sl hd σ.je σ.jr ep tr (.slice a6 (ks.length+1) c6)) 64:=t1;have hvs:=H6.out.2.put hb2 t3 hqw hml hqW HNB.out;have hrow:=H6.out.1.kept t3 (.inr (fun e=>by
      obtain ⟨cur,hcur⟩:=ownsRow_ty H6.out.1 e;have h:=H6.out.2.b2;unfold Blk at h;rw [h] at hcur;cases hcur))
     refine ⟨⟨j+1,by simp,by omega,ks++[(j:Int)],_,hvs,?_,by simp;omega⟩,by simp [intOf];omega⟩
     simpa using hrow
   ·have hje:j=n:=by omega
    subst hje;go_wp2_with fail
    refine (mnext_calls HVS.out.mm HVF.out (n:=12) (by omega)).mono ?_;rintro e w9 ⟨z,rfl,hz0,hz1,hm,hg⟩;have hc:Chg (fun i=>i=mp) wr w9:=Chg.one hg rfl;have hvs:=HVS.out.num hm hc hml hqW;have hrow:=rowChg HROW.out hc (fun b hb e=>by
     obtain ⟨cur,hcur⟩:=ownsRow_ty HROW.out hb;exact HVS.out.mm.ne hcur (by decide) e)
    clear HVS HROW hm hg hc;have HVS:=lh hvs;have HROW:=lh hrow;clear hvs hrow;go_upto_block 2 with (fail)
    go_cut [] (fun wx=>∃ se sr te tr,VS w wx mp I.p q qc vb nb cf (vtC sl hd se sr te tr who)∧wx.ownsRow w.heap.size 3 1 who ks.length (ks.map (Value.int .i64)))
    case first=>as_aux_lemma=>
     have hno : ∀ (wz:World) (b:Nat),VS w wz mp I.p q qc vb nb cf (vtC sl hd σ.je σ.jr ep tr who)→wz.ownsRow w.heap.size 3 1 who ks.length (ks.map (Value.int .i64))→who.ownBlock=some b→b≠qc+1:=fun wz b hv hr hb e=>by
      obtain ⟨cur,hcur⟩:=ownsRow_ty hr hb;have h:=hv.b2;unfold Blk at h;rw [e,h] at hcur;cases hcur
     have HNO:=lh hno;clear hno;by_cases z10:z=10
     ·subst z10;go_wp2_with fail
      refine (mnext_calls HVS.out.mm HVF.out (n:=3) (by omega)).mono ?_;rintro e w10 ⟨y3,rfl,hy0,hy1,hm,hg⟩;have hc:Chg (fun i=>i=mp) w9 w10:=Chg.one hg rfl;have hvs:=HVS.out.num hm hc hml hqW;have hrow:=rowChg HROW.out hc (fun b hb e=>by
       obtain ⟨cur,hcur⟩:=ownsRow_ty HROW.out hb;exact HVS.out.mm.ne hcur (by decide) e)
      clear HVS HROW hm hg hc;have e2:w10.cell? ⟨qc+1,2,none⟩=some (.int .i64 σ.je):=hvs.b2.at 2;have e3:w10.cell? ⟨qc+1,3,none⟩=some (.int .u64 σ.jr):=hvs.b2.at 3;have f2:=hvs.b2.fr 2;have f3:=hvs.b2.fr 3;have HVS:=lh hvs;have HROW:=lh hrow;clear hvs hrow;go_wp2_with fail
      go_meet
      obtain ⟨t1,_,t3⟩:=sto2 2 3 (.int .i64 y3) (.int .u64 1) HVS.out.b2;have hb2:Blk _ (qc+1) (vtC sl hd y3 1 ep tr who) 64:=t1;exact ⟨_,_,_,_,HVS.out.put hb2 t3 hqw hml hqW HNB.out,HROW.out.kept t3 (.inr (fun e=>HNO.out _ _ HVS.out HROW.out e rfl))⟩
     ·by_cases z11:z=11
      ·subst z11;clear z10;go_wp2_with fail
       refine (mblock_calls HVS.out.mm (HBL0.out.1.chg HVS.out.chg HBL0.out.2)).mono ?_;rintro e w10 ⟨r,rfl,hr,_,hm,hc⟩;have hvs:=HVS.out.num hm hc hml hqW;have hrow:=rowChg HROW.out hc (fun b hb e=>by
        obtain ⟨cur,hcur⟩:=ownsRow_ty HROW.out hb;exact HVS.out.mm.ne hcur (by decide) e)
       clear HVS HROW hm hc;have e5:w10.cell? ⟨qc+1,5,none⟩=some (.int .u64 tr):=hvs.b2.at 5;have f5:=hvs.b2.fr 5;have HVS:=lh hvs;have HROW:=lh hrow;clear hvs hrow;go_wp2_with fail
       go_meet
       obtain ⟨t1,_,t3⟩:=sto1 5 (.int .u64 r) HVS.out.b2;have hb2:Blk _ (qc+1) (vtC sl hd σ.je σ.jr ep r who) 64:=t1;exact ⟨_,_,_,_,HVS.out.put hb2 t3 hqw hml hqW HNB.out,HROW.out.kept t3 (.inr (fun e=>HNO.out _ _ HVS.out HROW.out e rfl))⟩
      ·have z10':(z == 10)=false:=by simp [z10]
       have z11':(z == 11)=false:=by simp [z11]
       clear z10 z11;go_wp2_with fail
       go_meet
       exact ⟨_,_,_,_,HVS.out,HROW.out⟩
    case rest=>
     obtain ⟨se,sr,te,tr2,hvs,hrow⟩:=hcut;clear HVS HROW;obtain ⟨wa,wcap,rfl,_,_⟩:=own_slice2 hrow;have HVS:=lh hvs;have HROW:=lh hrow;clear hvs hrow;go_wp2_with (first
      | refine wpList_load_blk (off:=0) HVS.out.b2 rfl _ rfl rfl _ Tryz.underlying64 rfl (vtC sl hd se sr te tr2 (.slice wa ks.length wcap)) (by as_aux_lemma=>kernel_rfl) rfl ?_
      | (refine wpList_store_blk HVS.out.b0 rfl (vtC sl hd se sr te tr2 (.slice wa ks.length wcap)) ⟨_,_,rfl,rfl,rfl⟩ (by as_aux_lemma=>kernel_rfl) rfl (by simp [vtC,Value.oneCell']) ?_;intro wz hbz hgz;have HBZ:=lh (And.intro hbz hgz);clear hbz hgz))
     have hcz:Chg (fun i=>i=q) wc wz:=Chg.one HBZ.out.2 rfl;have hrz:=row_kept HROW.out hcz HVS.out.b0 (by decide);refine bodyPost_ret (res_cell (cs:=vtC sl hd se sr te tr2 (.slice wa ks.length wcap)) (r:=q) rfl rfl (run_loadVar_blk (off:=0) HBZ.out.1 _ Tryz.underlying64 rfl _ (by as_aux_lemma=>kernel_rfl) rfl)) rfl ?_;exact ⟨⟨sl,hd,se,sr,te,tr2,ks⟩,wa,wcap,rfl,⟨hh,hs1,by show ks.length≤1000;omega⟩,hrz,HVS.out.mm.chg hcz (by omega) (fun k hk e=>by have:=HNB.out k hk;omega),HVS.out.chg.then hcz (fun i e=>.inr (by omega))⟩
end
def WhoAt (w:World) (lo hi:Nat) (vw:Option Addr) (ks:List Int):Prop:=Ints .i64 w vw ks∧∀ ad,vw=some ad→(lo≤ad.block∧ad.block < hi)∧ad.spot=none
theorem WhoAt.chg {S:Nat→Prop} {w w':World} {lo hi:Nat} {vw:Option Addr} {ks:List Int} (h:WhoAt w lo hi vw ks) (hc:Chg S w w') (hs : ∀ i,lo≤i→i < hi→¬ S i):WhoAt w' lo hi vw ks:=
 ⟨h.1.chg hc (fun ad e=>hs _ (h.2 ad e).1.1 (h.2 ad e).1.2),h.2⟩
theorem WhoAt.nil (w:World) (lo hi:Nat):WhoAt w lo hi none []:=⟨fun i hi=>by simp at hi,fun ad e=>by cases e⟩
theorem WhoAt.ok {w:World} {lo hi:Nat} {vw:Option Addr} {ks:List Int} (h:WhoAt w lo hi vw ks) {l m:Nat} (hl:l≤lo) (hm:hi≤m) : ∀ ad,vw=some ad→(l≤ad.block∧ad.block < m)∧ad.spot=none:=
 fun ad e=>⟨⟨Nat.le_trans hl (h.2 ad e).1.1,Nat.lt_of_lt_of_le (h.2 ad e).1.2 hm⟩,(h.2 ad e).2⟩
theorem vt0B:VtB vt0:=⟨by show inU 0;unfold inU;omega,by unfold vt0;simp,by simp [vt0]⟩
def ev0:Ev:=⟨0,0,0,0,0,[],[],vt0,vt0,vt0⟩
def ev0C:Array Value:=evC ev0 none 0 none 0 none 0 none 0 none 0
structure ES (w0 w:World) (mp p q:Nat) (vb:Value) (nb:Option Nat):Prop where
 mm:Mk w mp p vb nb
 b0:Blk w q ev0C 68
 chg:Chg (fun i=>i=mp) w0 w
section
variable {w0 w w':World} {mp p q:Nat} {vb:Value} {nb:Option Nat}
theorem ES.g (h:ES w0 w mp p q vb nb) (hg:w.grownBy w' none):ES w0 w' mp p q vb nb:=⟨h.mm.g hg,h.b0.g hg,h.chg.trans (Chg.of hg)⟩
theorem ES.num (h:ES w0 w mp p q vb nb) (hm:Mk w' mp p vb nb) (hc:Chg (fun i=>i=mp) w w') (h1:mp < q):ES w0 w' mp p q vb nb:=⟨hm,hc.blk h.b0 (by omega),h.chg.trans hc⟩
theorem ES.new (h:ES w0 w mp p q vb nb) {b:Nat} (hg:w.grownBy w' (some b)) (hb:q < b) (h1:mp < q) (h0:w0.heap.size≤q) (hn : ∀ k,nb=some k→k < w0.heap.size):ES w0 w' mp p q vb nb:=by
 have hc:Chg (fun i=>i=b) w w':=Chg.one hg rfl;exact ⟨h.mm.chg hc (by omega) (fun k hk e=>by have:=hn k hk;omega),hc.blk h.b0 (by omega),h.chg.then hc (fun i e=>.inr (by omega))⟩
end
def blC (rt r sl:Int) (vv pv:Value):Array Value:=#[.int .u64 rt,.int .u64 r,.int .i64 sl,vv,pv]
structure Vx where
 v:Vt
 a:Option Addr
 c:Nat
def vrC (x:Vx):List Value:=[.int .i64 x.v.sl,.int .u64 x.v.hd,.int .i64 x.v.se,.int .u64 x.v.sr,.int .i64 x.v.te,.int .u64 x.v.tr,.slice x.a x.v.who.length x.c]
def WRow (w:World) (base:Nat) (x:Vx):Prop:=w.ownsRow base 3 1 (.slice x.a x.v.who.length x.c) x.v.who.length (x.v.who.map (Value.int .i64))
structure BW (w0 w:World) (mp p q gm:Nat) (vb:Value) (nb:Option Nat) (rt r sl:Int) (vv pv:Value) (L:List Vx) (M:List (Vx×Vx)):Prop where
 es:ES w0 w mp p q vb nb
 b:Blk w gm (blC rt r sl vv pv) 59
 rv:w.ownsRow w0.heap.size 64 7 vv L.length (L.flatMap vrC)
 rp:w.ownsRow w0.heap.size 66 14 pv M.length (M.flatMap fun x=>vrC x.1++vrC x.2)
 wv : ∀ x∈L,WRow w w0.heap.size x∧VtB x.v
 wp : ∀ x∈M,(WRow w w0.heap.size x.1∧VtB x.1.v)∧WRow w w0.heap.size x.2∧VtB x.2.v
theorem inU_wrap (z:Int):inU (IntKind.u64.wrap z):=by
 unfold inU;simp [IntKind.wrap,IntKind.signed,IntKind.bits];omega
theorem info_vt:(Tryz.prog.info? 64).map (fun i=>(i.zero,i.size,i.bytes))=some (some (.agg #[.int .i64 0,.int .u64 0,.int .i64 0,.int .u64 0,.int .i64 0,.int .u64 0,.slice none 0 0]),7,72):=by kernel_rfl
theorem elem_vt : ∃ i,Elem Tryz.prog 64 i (.agg #[.int .i64 0,.int .u64 0,.int .i64 0,.int .u64 0,.int .i64 0,.int .u64 0,.slice none 0 0]) 7 72:=info_parts info_vt
theorem info_pr:(Tryz.prog.info? 66).map (fun i=>(i.zero,i.size,i.bytes))=some (some (.agg #[.int .i64 0,.int .u64 0,.int .i64 0,.int .u64 0,.int .i64 0,.int .u64 0,.slice none 0 0,.int .i64 0,.int .u64 0,.int .i64 0,.int .u64 0,.int .i64 0,.int .u64 0,.slice none 0 0]),14,144):=by kernel_rfl
theorem elem_pr : ∃ i,Elem Tryz.prog 66 i (.agg #[.int .i64 0,.int .u64 0,.int .i64 0,.int .u64 0,.int .i64 0,.int .u64 0,.slice none 0 0,.int .i64 0,.int .u64 0,.int .i64 0,.int .u64 0,.int .i64 0,.int .u64 0,.slice none 0 0]) 14 144:=info_parts info_pr
theorem flat_get {α β:Type} (f:α→List β) (k:Nat) (hf : ∀ x,(f x).length=k) : ∀ (L:List α) (i:Nat) (x:α),L[i]? = some x→∀ t,t < k→(L.flatMap f)[i * k+t]? = (f x)[t]?
 | [],i,x,h,_,_=>by simp at h
 | y :: L,0,x,h,t,ht=>by
  obtain rfl:y=x:=by simpa using h
  show (f y++L.flatMap f)[0 * k+t]? = _;rw [List.getElem?_append_left (by rw [hf];omega)];simp
 | y :: L,i+1,x,h,t,ht=>by
  rw [List.getElem?_cons_succ] at h;have ih:=flat_get f k hf L i x h t ht;show (f y++L.flatMap f)[(i+1) * k+t]? = _;rw [List.getElem?_append_right (by rw [hf,Nat.succ_mul];omega),hf,show (i+1) * k+t - k=i * k+t from by rw [Nat.succ_mul];omega];exact ih
section
variable {w0 w w':World} {mp p q gm:Nat} {vb:Value} {nb:Option Nat} {rt r sl:Int} {vv pv:Value} {L:List Vx} {M:List (Vx×Vx)}
theorem blk_row {k:Nat} {cs:Array Value} {T0 T:TypeId} {base s2 n2:Nat} {v2:Value} {xs2:List Value} (hb:Blk w k cs T0) (h2:w.ownsRow base T s2 v2 n2 xs2) (hg:w.grownBy w' v2.ownBlock) (hT:T≠T0):Blk w' k cs T0:=
 hb.kept hg (fun e=>by
  obtain ⟨cur,hcur⟩:=ownsRow_ty h2 e;unfold Blk at hb;rw [hb] at hcur;cases hcur;exact hT rfl)
theorem ES.row {T:TypeId} {s2 n2:Nat} {v2:Value} {xs2:List Value} (h:ES w0 w mp p q vb nb) (h2:w.ownsRow w0.heap.size T s2 v2 n2 xs2) (hg:w.grownBy w' v2.ownBlock) (h1:T≠92) (h68:T≠68) (hn : ∀ k,nb=some k→k < w0.heap.size):ES w0 w' mp p q vb nb:=by
 have hc:Chg (fun i=>v2.ownBlock=some i) w w':=⟨hg.os,hg.tape,hg.output,hg.size,fun i hi hn=>hg.block i hi (fun e=>hn e.symm)⟩;refine ⟨h.mm.chg hc (fun e=>?_) (fun k hk e=>?_),blk_row h.b0 h2 hg h68,h.chg.then hc (fun i e=>.inr (h2.lt i e).1)⟩
 ·obtain ⟨cur,hcur⟩:=ownsRow_ty h2 e;exact h.mm.ne hcur h1 rfl
 ·have:=hn k hk;have:=(h2.lt k e).1;omega
theorem BW.g (h:BW w0 w mp p q gm vb nb rt r sl vv pv L M) (hg:w.grownBy w' none):BW w0 w' mp p q gm vb nb rt r sl vv pv L M:=
 ⟨h.es.g hg,h.b.g hg,ownsRow_g h.rv hg,ownsRow_g h.rp hg,fun x hx=>⟨ownsRow_g (h.wv x hx).1 hg,(h.wv x hx).2⟩,fun x hx=>⟨⟨ownsRow_g (h.wp x hx).1.1 hg,(h.wp x hx).1.2⟩,ownsRow_g (h.wp x hx).2.1 hg,(h.wp x hx).2.2⟩⟩
theorem BW.num (h:BW w0 w mp p q gm vb nb rt r sl vv pv L M) (hm:Mk w' mp p vb nb) (hc:Chg (fun i=>i=mp) w w') (h1:mp < q) (h2:q < gm):BW w0 w' mp p q gm vb nb rt r sl vv pv L M:=by
 obtain ⟨na,nc,ns,hb,_⟩:=id h.es.mm;exact ⟨h.es.num hm hc h1,hc.blk h.b (by omega),row_kept h.rv hc hb (by decide),row_kept h.rp hc hb (by decide),fun x hx=>⟨row_kept (h.wv x hx).1 hc hb (by decide),(h.wv x hx).2⟩,
  fun x hx=>⟨⟨row_kept (h.wp x hx).1.1 hc hb (by decide),(h.wp x hx).1.2⟩,row_kept (h.wp x hx).2.1 hc hb (by decide),(h.wp x hx).2.2⟩⟩
theorem BW.new (h:BW w0 w mp p q gm vb nb rt r sl vv pv L M) {b:Nat} {cs:Array Value} {T:TypeId} (hg:w.grownBy w' (some b)) (hb:Blk w b cs T) (h0:gm < b) (h1:mp < q) (h2:q < gm) (h3:w0.heap.size≤q) (hn : ∀ k,nb=some k→k < w0.heap.size) (hT3:T≠3) (hT4:T≠64∨∀ k,vv.ownBlock=some k→k≠b) (hT6:T≠66):BW w0 w' mp p q gm vb nb rt r sl vv pv L M:=by
 have hc:Chg (fun i=>i=b) w w':=Chg.one hg rfl;refine ⟨h.es.new hg (by omega) h1 h3 hn,hc.blk h.b (by omega),?_,row_kept h.rp hc hb hT6,fun x hx=>⟨row_kept (h.wv x hx).1 hc hb hT3,(h.wv x hx).2⟩,
  fun x hx=>⟨⟨row_kept (h.wp x hx).1.1 hc hb hT3,(h.wp x hx).1.2⟩,row_kept (h.wp x hx).2.1 hc hb hT3,(h.wp x hx).2.2⟩⟩
 rcases hT4 with h4 | h4
 ·exact row_kept h.rv hc hb h4
 ·exact rowChg h.rv hc (fun k hk e=>h4 k hk e)
theorem BW.addv (h:BW w0 w mp p q gm vb nb rt r sl vv pv L M) {v':Value} {x:Vx} (hx:WRow w w0.heap.size x∧VtB x.v) (h5:w'.ownsRow w0.heap.size 64 7 v' (L.length+1) (L.flatMap vrC++vrC x)) (hg:w.grownBy w' vv.ownBlock)
  (h1:mp < q) (h2:q < gm) (h3:w0.heap.size≤q) (hn : ∀ k,nb=some k→k < w0.heap.size):BW w0 (w'.setCell ⟨gm,3,none⟩ v') mp p q gm vb nb rt r sl v' pv (L++[x]) M:=by
 have hb':=blk_row h.b h.rv hg (by decide);have hs:=hb'.set 3 v';have hgs:=gset w' gm 3 v';have hc2:Chg (fun i=>i=gm) w' (w'.setCell ⟨gm,3,none⟩ v'):=Chg.one hgs rfl;have hwr : ∀ {y:Vx},WRow w w0.heap.size y→WRow (w'.setCell ⟨gm,3,none⟩ v') w0.heap.size y:=fun hy=>row_kept (row_apart hy h.rv hg (by decide)) hc2 hb' (by decide);refine ⟨(h.es.row h.rv hg (by decide) (by decide) hn).new hgs h2 h1 h3 hn,hs,?_,row_kept (row_apart h.rp h.rv hg (by decide)) hc2 hb' (by decide),fun y hy=>?_,fun y hy=>⟨⟨hwr (h.wp y hy).1.1,(h.wp y hy).1.2⟩,hwr (h.wp y hy).2.1,(h.wp y hy).2.2⟩⟩
 ·have h6:=row_kept h5 hc2 hb' (by decide)
  simpa using h6
 ·rcases List.mem_append.1 hy with hy | hy
  ·exact ⟨hwr (h.wv y hy).1,(h.wv y hy).2⟩
  ·rw [List.mem_singleton.1 hy];exact ⟨hwr hx.1,hx.2⟩
theorem BW.addp (h:BW w0 w mp p q gm vb nb rt r sl vv pv L M) {v':Value} {x:Vx×Vx} (hx:(WRow w w0.heap.size x.1∧VtB x.1.v)∧WRow w w0.heap.size x.2∧VtB x.2.v) (h5:w'.ownsRow w0.heap.size 66 14 v' (M.length+1) ((M.flatMap fun x=>vrC x.1++vrC x.2)++(vrC x.1++vrC x.2))) (hg:w.grownBy w' pv.ownBlock)
  (h1:mp < q) (h2:q < gm) (h3:w0.heap.size≤q) (hn : ∀ k,nb=some k→k < w0.heap.size):BW w0 (w'.setCell ⟨gm,4,none⟩ v') mp p q gm vb nb rt r sl vv v' L (M++[x]):=by
 have hb':=blk_row h.b h.rp hg (by decide);have hs:=hb'.set 4 v';have hgs:=gset w' gm 4 v';have hc2:Chg (fun i=>i=gm) w' (w'.setCell ⟨gm,4,none⟩ v'):=Chg.one hgs rfl;have hwr : ∀ {y:Vx},WRow w w0.heap.size y→WRow (w'.setCell ⟨gm,4,none⟩ v') w0.heap.size y:=fun hy=>row_kept (row_apart hy h.rp hg (by decide)) hc2 hb' (by decide);refine ⟨(h.es.row h.rp hg (by decide) (by decide) hn).new hgs h2 h1 h3 hn,hs,row_kept (row_apart h.rv h.rp hg (by decide)) hc2 hb' (by decide),?_,fun y hy=>⟨hwr (h.wv y hy).1,(h.wv y hy).2⟩,fun y hy=>?_⟩
 ·have h6:=row_kept h5 hc2 hb' (by decide)
  simpa using h6
 ·rcases List.mem_append.1 hy with hy | hy
  ·exact ⟨⟨hwr (h.wp y hy).1.1,(h.wp y hy).1.2⟩,hwr (h.wp y hy).2.1,(h.wp y hy).2.2⟩
  ·rw [List.mem_singleton.1 hy];exact ⟨⟨hwr hx.1.1,hx.1.2⟩,hwr hx.2.1,hx.2.2⟩
end
section
variable {w:World} {base g:Nat} {xs:List Value}
theorem vcell_of {n k at_:Nat} {T:TypeId} {s:Nat} (h:w.ownsRow base T s (.slice (some ⟨g,0,none⟩) n k) n xs) {x:Vx} (hx:WRow w base x) (hg : ∀ t,t < 7→xs[at_+t]? = (vrC x)[t]?):VCell w (fun i=>base≤i∧i < w.heap.size) g at_ x.v:=by
 have hc : ∀ t u,t < 7→(vrC x)[t]? = some u→w.cell? ⟨g,at_+t,none⟩=some u:=fun t u ht hu=>by
  have h1:=h.cells (g:=g) rfl (at_+t) u (by rw [hg t ht];exact hu);rw [add0] at h1;exact h1
 obtain ⟨w1,w2⟩:=who_row hx;exact ⟨x.a,x.c,hc 0 _ (by omega) rfl,hc 1 _ (by omega) rfl,hc 2 _ (by omega) rfl,hc 3 _ (by omega) rfl,hc 4 _ (by omega) rfl,hc 5 _ (by omega) rfl,hc 6 _ (by omega) rfl,w1,w2⟩
theorem vs_of {va:Option Addr} {k:Nat} {L:List Vx} (h:w.ownsRow base 64 7 (.slice va L.length k) L.length (L.flatMap vrC)) (hw : ∀ x∈L,WRow w base x):VsAt w (fun i=>base≤i∧i < w.heap.size) (L.map Vx.v) va:=by
 rcases Nat.eq_zero_or_pos L.length with h0 | h0
 ·exact .inl (by rw [List.eq_nil_of_length_eq_zero h0];rfl)
 ·obtain ⟨a,c,e,h1,_⟩:=own_slice2 h;cases e;obtain ⟨g,rfl⟩:=h1 h0;refine .inr ⟨g,rfl,h.lt g rfl,fun i hi=>?_⟩;rw [List.length_map] at hi;have hx:L[i]? = some L[i]:=List.getElem?_eq_getElem hi;have he:(L.map Vx.v).getD i vt0=L[i].v:=by rw [List.getD_eq_getElem?_getD,List.getElem?_map,hx];rfl
  rw [he];exact vcell_of h (hw _ (List.getElem_mem hi)) (fun t ht=>flat_get vrC 7 (fun _=>rfl) L i _ hx t ht)
theorem ps_of {va:Option Addr} {k:Nat} {M:List (Vx×Vx)} (h:w.ownsRow base 66 14 (.slice va M.length k) M.length (M.flatMap fun x=>vrC x.1++vrC x.2)) (hw : ∀ x∈M,WRow w base x.1∧WRow w base x.2):PsAt w (fun i=>base≤i∧i < w.heap.size) (M.map fun x=>(x.1.v,x.2.v)) va:=by
 rcases Nat.eq_zero_or_pos M.length with h0 | h0
 ·exact .inl (by rw [List.eq_nil_of_length_eq_zero h0];rfl)
 ·obtain ⟨a,c,e,h1,_⟩:=own_slice2 h;cases e;obtain ⟨g,rfl⟩:=h1 h0;refine .inr ⟨g,rfl,h.lt g rfl,fun i hi=>?_⟩;rw [List.length_map] at hi;have hx:M[i]? = some M[i]:=List.getElem?_eq_getElem hi;have he:(M.map fun x=>(x.1.v,x.2.v)).getD i (vt0,vt0)=(M[i].1.v,M[i].2.v):=by rw [List.getD_eq_getElem?_getD,List.getElem?_map,hx];rfl
  rw [he];have hf:=flat_get (fun x:Vx×Vx=>vrC x.1++vrC x.2) 14 (fun _=>rfl) M i _ hx;obtain ⟨w1,w2⟩:=hw _ (List.getElem_mem hi);refine ⟨vcell_of h w1 (fun t ht=>(hf t (by omega)).trans (List.getElem?_append_left (by show t < 7;exact ht))),vcell_of h w2 (fun t ht=>?_)⟩;rw [show i * 14+7+t=i * 14+(7+t) from by omega];refine (hf (7+t) (by omega)).trans ((List.getElem?_append_right (by show 7≤7+t;omega)).trans ?_);show (vrC M[i].2)[7+t - 7]? = _;rw [show 7+t - 7=t from by omega]
end
end Go.Proofs.YtndfpmboanohcaaGreatDoor
