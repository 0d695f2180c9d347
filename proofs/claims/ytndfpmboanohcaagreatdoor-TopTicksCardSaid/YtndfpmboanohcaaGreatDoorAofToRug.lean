/- Contract of array.Of at a configuration that may be. -/
import Derived.Test.YtndfpmboanohcaaGreatDoorSof
import Derived.Test.YtndfpmboanohcaaGreatDoorFeaToNub
import Derived.Test.YtndfpmboanohcaaGreatDoorCanToTra
namespace Go.Proofs.YtndfpmboanohcaaGreatDoor
set_option maxRecDepth 100000
open Go.RowKit Go.Maps SkipPure
def arr0:Arr:={ n:=1,X:=fun _=>⟨1,-1,0,0,0⟩,b:=0 }
section
variable {w:World} {bs:List Int} {S B:Int} {ad:Option Addr} {c:Nat}
theorem aof_calls (hb:Ints .u64 w ad bs) (hm:MayBe bs S B) :
  Calls Tryz.prog 23 #[cfgV ad bs.length c S B] w fun e w'=>∃ I J,e=.returned (.tuple #[.pointer (some ⟨J.q,0,none⟩),.nilIface])∧StoreAt w' I (st0 bs S B)∧ArrAt w' J I.p arr0∧I.ex=AOwn J∧w.grownBy w' none ∧
   (∀ i,Mut I i→w.heap.size≤i)∧(∀ i,AOwn J i→w.heap.size≤i):=by
 have HB:=lh hb;have HM:=lh hm;clear hb hm;unfold cfgV;go_enter Tryz.func23,Tryz.ntmps23
 go_upto_region 1 with (fail)
 refine nmC1 ?_;intro W b0 hz hg;obtain ⟨q,hq_q⟩ : ∃ q,q=w.heap.size:=⟨_,rfl⟩;rw [← hq_q] at b0 hz ⊢;have HQ_q:=lh hq_q;clear hq_q;have HQ:=lh b0;have HG:=lh hg;clear b0 hg;replace HB:=lh (Ints.kept HB.out HG.out);obtain ⟨c0,c1,c2⟩:=HQ.out.c3;go_wp2_with fail
 refine (sof_calls HB.out HM.out).mono ?_;rintro e w1 ⟨I,rfl,hst,hch,hex,hmu,hg⟩;have hwW:=HG.out.size;replace HG:=lh (g2 HG.out hg);clear hg c0 c1 c2 HB HQ hch;have hmu2 : ∀ i,Mut I i→w.heap.size≤i:=fun i hi=>Nat.le_trans hwW (hmu i hi);have HH:=lh hst;have HEX:=lh hex;have HMU:=lh hmu2;clear hst hex hmu2;clear hmu hwW;go_wp2;go_ret2;obtain ⟨⟨k1,k2⟩,hz2,hg2⟩:=alloc2 w1 #[.int .u64 1,.int .i64 (-1),.int .u64 0,.int .u64 0,.int .u64 0] #[.pointer (some ⟨I.p,0,none⟩),.slice (some ⟨w1.heap.size,0,none⟩) 1 1,.int .u64 0] 150 110;have hws:=HG.out.size;have hl1:0 < bs.length:=by have:=HM.out.l1;omega
 have hst:=HH.out.reex (I:=I) hl1 (Chg.of hg2) (AOwn ⟨w1.heap.size+1,w1.heap.size,1⟩) (fun i hi=>by
  rcases hi with e | e <;> rw [e] <;> right
  ·show w1.heap.size≤w1.heap.size+1;omega
  ·exact Nat.le_refl _) (fun i hi=>by
  rcases hi with e | e <;> rw [e,hz2]
  ·show w1.heap.size+1 < _;omega
  ·show w1.heap.size < _;omega)
 refine ⟨{ I with ex:=AOwn ⟨w1.heap.size+1,w1.heap.size,1⟩ },⟨w1.heap.size+1,w1.heap.size,1⟩,rfl,hst,⟨k2,⟨Nat.le_refl _,by show 1≤maxLen;unfold maxLen;omega,_,k1,rfl,?_⟩,by show w1.heap.size+1≠w1.heap.size;omega,by show 1≤100000;omega⟩,rfl,g2 HG.out hg2,HMU.out,fun i hi=>?_⟩
 ·intro i hi t ht;have e:i=0:=by have : i < 1:=hi;omega
  subst e;exact five (P:=fun t=>(#[Value.int .u64 1,.int .i64 (-1),.int .u64 0,.int .u64 0,.int .u64 0]:Array Value)[0 * 5+t]? = some (fld (arr0.X 0) t)) rfl rfl rfl rfl rfl t ht
 ·rcases hi with e | e <;> rw [e]
  ·show _≤w1.heap.size+1;omega
  ·exact hws
end
theorem info_line2:(Tryz.prog.info? 48).map (fun i=>(i.zero,i.size,i.bytes))=some (some (.agg #[.int .i64 0,.slice none 0 0]),2,32):=by kernel_rfl
theorem elem_line2 : ∃ i,Elem Tryz.prog 48 i (.agg #[.int .i64 0,.slice none 0 0]) 2 32:=info_parts info_line2
theorem run_loadVar_at {P:Program} {w:World} {g off:Nat} {ty:TypeId} (cs:Array Value) (h : ∀ t v,cs[t]? = some v→w.cell? ⟨g,off+t,none⟩=some v) (d:TypeDesc)
  (hu:P.underlying ty=some d) (hd:(match d with | .struct _ | .array _ _=>true | _=>false)=true) (hi:(P.info? ty).map (·.size)=some cs.size):(loadVar ty ⟨g,off,none⟩).run P w=.ok (.agg cs) w:=by
 have hl:(loadCells ⟨g,off,none⟩ cs.toList.length).run P w=.ok cs.toList.toArray w:=
  run_loadCells_list (P:=P) (w:=w) ⟨g,off,none⟩ cs.toList (fun j v hv=>by
   have hadd:(⟨g,off,none⟩:Addr).add j=⟨g,off+j,none⟩:=by unfold Addr.add;split <;> simp_all
   rw [hadd];exact h j v (by simpa using hv))
 cases hq:P.info? ty with
 | none=>simp [hq] at hi
 | some i=>
  have hs:i.size=cs.size:=by simpa [hq] using hi
  have hagg:(isAgg ty).run P w=.ok true w:=by
   unfold isAgg;rw [Sem.run_bind,run_underlying hu w];cases d <;> simp_all
  simp only [Array.length_toList,Array.toArray_toList] at hl;simp [loadVar,Sem.run_bind,hagg,sizeOf,typeInfo,hq,hs,hl]
theorem wpList_load_at {P:Program} {ops:Array Oper} {rest:List Oper} {o:Oper} {a:Act} {w:World} {Q:Exit→Act→World→Prop} {g off:Nat} {ty:TypeId} (cs:Array Value) (h : ∀ t v,cs[t]? = some v→w.cell? ⟨g,off+t,none⟩=some v) (hgd:o.guard=none) (x:Operand) (ho:o.op=.load ty x) (hx:a.eval x=.pointer (some ⟨g,off,none⟩)) (d:TypeDesc)
  (hu:P.underlying ty=some d) (hd:(match d with | .struct _ | .array _ _=>true | _=>false)=true) (hi:(P.info? ty).map (·.size)=some cs.size)
  (hK:wpList P ops Q rest (a.put o.dst (.agg cs)) w):wpList P ops Q (o :: rest) a w:=
 wpList_plain hgd fun K' hK'=>by
  unfold Oper.wp execOp;simp only [ho,hx,Instr.loadAt,Instr.sureAddr,Sem.run_bind,Sem.run_pure,Result.andThen_ok,run_loadVar_at cs h d hu hd hi];exact hK' _ _ hK
theorem key0 {bs:List Int} {S B r:Int} (h:((st0 bs S B).F r).isSome=true):r=1:=by
 have h2:(if r=1 then some ((1:Int),(0:Int),(0:Int)) else none).isSome=true:=h;split at h2
 ·assumption
 ·cases h2
theorem F0 (bs:List Int) (S B:Int):(st0 bs S B).F 1=some (1,0,0):=rfl
theorem ledBd1 (n:Nat) (e:Int) (he:e=1):LedBd (led0 n e):=by
 subst he;exact ⟨⟨by simp [led0],by simp [led0],by simp [led0],by simp [led0],by simp [led0],by simp [led0],by simp [led0,inU],by simp [led0,inU],by simp [led0,inU]⟩,by simp [led0],by simp [led0]⟩
theorem inv0 {bs:List Int} {S B:Int} (hm:MayBe bs S B):Inv (st0 bs S B) 1:=by
 have hF : ∀ r x,(st0 bs S B).F r=some x→r=1∧x=(1,0,0):=fun r x h=>by
  have e:=key0 (bs:=bs) (S:=S) (B:=B) (r:=r) (by rw [h];rfl);subst e;rw [F0] at h;exact ⟨rfl,(Option.some.inj h).symm⟩
 refine ⟨⟨hm,⟨rfl,fun r x h hr=>absurd (hF r x h).1 hr,fun r x h=>?_,fun r x h=>?_,fun r x h=>?_⟩,by show 1≤1024;omega,⟨[1],by show 1≤1;omega,fun k hk=>by rw [key0 hk];simp⟩,fun r=>?_,fun r x h=>?_,by show (0:Int)≤0;omega,by show (0:Int)≤_;omega,
  by show inU 0;unfold inU;omega,by show (0:Int)≤0;omega,by show (0:Int)≤_;omega,by show inU 1;unfold inU;omega,by show (0:Int)≤0;omega,by show (0:Int)≤_;omega,by show inU 1;unfold inU;omega,fun i _=>by show inU 0∧(0:Int)≤0∧(0:Int)≤_;unfold inU;omega⟩,
  fun r y h hr=>absurd (hF r y h).1 hr,⟨[1],by simp,fun r hr=>?_⟩,by show 1≤1;omega,fun r x h=>?_⟩
 ·rw [(hF r x h).1];unfold inU;omega
 ·rw [(hF r x h).2];simp
 ·rw [(hF r x h).2];simp
 ·show (if r=1 then some (led0 bs.length 1) else none).isSome=(if r=1 then some ((1:Int),(0:Int),(0:Int)) else none).isSome;split <;> rfl
 ·have h2:(if r=1 then some (led0 bs.length 1) else none)=some x:=h;split at h2
  ·cases h2;exact ledBd1 _ _ rfl
  ·cases h2
 ·rcases hr with hr | hr
  ·rw [key0 hr];simp
  ·exact absurd hr (fun h=>h)
 ·rw [(hF r x h).2];decide
theorem par0 (bs:List Int) (S B:Int) : ∀ r x,(st0 bs S B).F r=some x→inU x.1:=fun r x h=>by
 have e:=key0 (bs:=bs) (S:=S) (B:=B) (r:=r) (by rw [h];rfl);subst e;rw [F0] at h;obtain rfl:=Option.some.inj h;unfold inU;simp
theorem cov0 (bs:List Int) (S B:Int):ACov arr0 (st0 bs S B) 1:=by
 refine ⟨fun i hi=>?_,fun i hi=>?_,Nat.le_refl _,Nat.le_refl _,fun r hr=>⟨0,by show 0 < 1;omega,?_⟩⟩
 ·show -1≤(-1:Int)∧(-1:Int) < i;omega
 ·show inU 1;unfold inU;omega
 ·rw [key0 hr];rfl
def lnC (x:Int×Value):List Value:=[.int .i64 x.1,x.2]
def lnRow (es:List (Int×Value)):List Value:=es.flatMap lnC
theorem lnRow_snoc (es:List (Int×Value)) (x:Int×Value):lnRow (es++[x])=lnRow es++lnC x:=by simp [lnRow]
theorem ACov.same {α α':Arr} {σ:St} {M:Nat} (h:ACov α σ M) (hn:α'.n=α.n) (hp : ∀ i,(α'.X i).p=(α.X i).p) (hr : ∀ i,(α'.X i).r=(α.X i).r):ACov α' σ M:=
 ⟨by rw [hn];exact h.par.same hp,fun i hi=>by rw [hr];exact h.root i (by omega),by rw [hn];exact h.n1,by rw [hn];exact h.n2,fun r hr'=>by
  obtain ⟨i,h1,h2⟩:=h.cov r hr';exact ⟨i,by omega,by rw [hr];exact h2⟩⟩
theorem number_err (E:Int) (w:World) (hg:w.cell? ⟨0,0,none⟩=some (.iface 199 (.agg #[.pointer (some ⟨1,42,none⟩)]))) :
  Calls Tryz.prog 16 #[errV E] w fun e w'=>e=.returned (.int .i64 E)∧w.grownBy w' none:=by
 by_cases h:E=0
 ·subst h;exact number_nil w
 ·have e:errV E=.iface 46 (.int .i64 E):=by unfold errV;rw [if_neg h]
  rw [e];exact number_errno E w hg
def EvRow (w:World) (N0:Nat) (ga:Option Addr) (evs:List Ev):Prop:=
 evs=[]∨∃ ge,ga=some ⟨ge,0,none⟩∧ge < N0∧∀ j e,evs[j]? = some e→∃ cells,EvAt w (fun i=>i < N0) e cells∧∀ t v,cells[t]? = some v→w.cell? ⟨ge,j * 28+t,none⟩=some v
theorem EvAt.gg {w w':World} {M:Nat→Prop} {e:Ev} {cells:Array Value} (h:EvAt w (fun i=>i < w.heap.size∧¬ M i) e cells) (hg:w.grownBy w' none):EvAt w' (fun i=>i < w'.heap.size∧¬ M i) e cells:=
 h.chg (S:=fun _=>False) (Chg.of hg) (fun _ _ h=>h) (fun _ hi=>⟨Nat.lt_of_lt_of_le hi.1 hg.size,hi.2⟩)
theorem StoreAt.rowty {w:World} {I:Ids} {σ:St} (h:StoreAt w I σ) {b:Nat} {cur:Array Value} {e:TypeId} (hb:w.heap[b]? = some (.cells cur e (0,0))) (h1:e≠78) (h2:e≠171) (h3:e≠147):¬ Mut I b:=by
 have hmap : ∀ {n:Nat} {G:Int→Option Value} {k:Nat},RawMap Tryz.prog 27 w k n G→k≠b:=fun hm e=>by
  obtain ⟨D,⟨es,clock,h2,_⟩,_⟩:=hm;rw [e,hb] at h2;cases h2
 intro hm;rcases hm with e | e | e | e | e | e
 ·have:=h.blk;unfold Blk at this;rw [← e,hb] at this;cases this;exact h1 rfl
 ·have:=h.tree.2.1;rw [← e,hb] at this;cases this;exact h2 rfl
 ·exact hmap h.tree.2.2 e.symm
 ·obtain ⟨cs,hv,_⟩:=h.votes;rw [← e,hb] at hv;cases hv;exact h3 rfl
 ·obtain ⟨_,_,_,hl,_⟩:=h.led;exact hmap hl e.symm
 ·obtain ⟨_,_,hl,_⟩:=h.gone;exact hmap hl e.symm
section
variable {w:World} {I:Ids} {σ:St} {v:Value}
theorem StoreAt.addrow (h:StoreAt w I σ) (hN:0 < σ.bs.length) (hv : ∀ b,v.ownBlock=some b→(∃ cur,w.heap[b]? = some (.cells cur 48 (0,0)))∧∃ E,w.cell? ⟨b,0,none⟩=some (.int .i64 E)) (hba : ∀ ad,I.ba=some ad→v.ownBlock≠some ad.block) :
  StoreAt w { I with ex:=fun i=>I.ex i∨v.ownBlock=some i } σ:=by
 have hmut : ∀ b,v.ownBlock=some b→¬ Mut I b:=fun b hb=>by
  obtain ⟨⟨cur,hcur⟩,_⟩:=hv b hb;exact h.rowty hcur (by decide) (by decide) (by decide)
 obtain ⟨h1,h2,h3,h4,h5,h6,h7,h8,h9,h10⟩:=h;refine ⟨h1,h2,h3,h4,?_,h6,h7,fun ad had hf=>?_,fun i hi=>?_,fun i hi=>hi.elim (h10 i) (hmut i)⟩
 ·obtain ⟨n,js,G,l1,l2,l3,l4,l5⟩:=h5;refine ⟨n,js,G,l1,l2,l3,l4,fun r=>⟨(l5 r).1,fun x hx=>?_⟩⟩;obtain ⟨y,hy,g,c,g2,d,he,k3,k4,k5,k6⟩:=(l5 r).2 x hx;have hno : ∀ q xs,BRow w q σ.bs.length xs→¬ v.ownBlock=some q:=fun q xs hb he=>by
   obtain ⟨_,E,hE⟩:=hv q he;have h0:=hb.2 0 hN;rw [hE] at h0;cases h0
  refine ⟨y,hy,g,c,g2,d,he,k3,k4,fun hf=>?_,fun hf=>?_⟩
  ·rcases hf with hf | hf | hf
   ·exact k5 (.inl hf)
   ·exact k5 (.inr hf)
   ·exact hno g _ k3 hf
  ·rcases hf with hf | hf | hf
   ·exact k6 (.inl hf)
   ·exact k6 (.inr hf)
   ·exact hno g2 _ k4 hf
 ·rcases hf with hf | hf | hf
  ·exact h8 ad had (.inl hf)
  ·exact h8 ad had (.inr hf)
  ·exact hba ad had hf
 ·rcases hi with hi | hi
  ·exact h9 i hi
  ·obtain ⟨⟨cur,hcur⟩,_⟩:=hv i hi;exact (Array.getElem?_eq_some_iff.1 hcur).1
end
structure EngR (X:EngD) (k:Int):Prop where
 laws:EngL X
 mf : ∀ (q : Nat) (w : World), (method 402 X.ty (.pointer (some ⟨q, 0, none⟩)) "Feed").run Tryz.prog w = .ok (X.ff, .pointer (some ⟨q, 0, none⟩)) w
 mh : ∀ (q : Nat) (w : World), (method 402 X.ty (.pointer (some ⟨q, 0, none⟩)) "Head").run Tryz.prog w = .ok (X.fh, .pointer (some ⟨q, 0, none⟩)) w
 nf : ∀ (q : Nat) (w : World), (nilAhead 402 X.ty (.pointer (some ⟨q, 0, none⟩)) "Feed").run Tryz.prog w = .ok (some false) w
 cf : ∀ (args:Array Value) (w:World),(callFunc X.ff args).run Tryz.prog w=.ok (.enter X.ff args) w
 ch : ∀ (args:Array Value) (w:World),(callFunc X.fh args).run Tryz.prog w=.ok (.enter X.fh args) w
 r0 : ∀ {bs:List Int} {S B:Int},MayBe bs S B→X.Rel (st0 bs S B) 1 X.t0
 of : ∀ {w:World} {bs:List Int} {S B:Int} {ad:Option Addr} {c:Nat},Ints .u64 w ad bs→MayBe bs S B →
  Calls Tryz.prog 15 #[.int .i64 k,cfgV ad bs.length c S B] w fun e w'=>∃ q I,e=.returned (.tuple #[.iface X.ty (.pointer (some ⟨q,0,none⟩)),.pointer (some ⟨I.p,0,none⟩),.nilIface])∧EngAt X w' q I (st0 bs S B) X.t0 1∧w.grownBy w' none∧∀ i,Far I i→w.heap.size≤i
def ByAt (w:World) (v:Value) (l:List UInt8) (ok:Nat→Prop):Prop:=∃ g c,v=.slice (some ⟨g,0,none⟩) l.length c∧ok g∧∀ j,j < l.length→w.cell? ⟨g,j,none⟩=some (.int .u8 ((l.getD j 0).toNat:Int))
theorem ByAt.chg {S:Nat→Prop} {w w':World} {v:Value} {l:List UInt8} {ok ok':Nat→Prop} (h:ByAt w v l ok) (hc:Chg S w w') (hs : ∀ i,ok i→¬ S i) (ho : ∀ i,ok i→ok' i):ByAt w' v l ok':=by
 obtain ⟨g,c,h1,h2,h3⟩:=h;exact ⟨g,c,h1,ho g h2,fun j hj=>hc.cell (h3 j hj) (hs g h2)⟩
theorem ByAt.of {w:World} {B n:Nat} {v:Value} {l:List UInt8} (h:w.ownsRow B 5 1 v n (u8s l)) (hn:0 < n):ByAt w v l (fun i=>B≤i∧i < w.heap.size):=by
 obtain ⟨g,c,rfl,_,_⟩:=h.form hn;have hl:l.length=n:=by have:=h.1;simpa [u8s] using this
 subst hl;refine ⟨g,c,rfl,h.lt g rfl,fun j hj=>?_⟩;have h1:=h.cells (g:=g) rfl j (.int .u8 ((l.getD j 0).toNat:Int)) (by simp [u8s,List.getElem?_eq_getElem hj,List.getD_eq_getElem?_getD]);have e:(⟨g,0,none⟩:Addr).add j=⟨g,j,none⟩:=by unfold Addr.add;split <;> simp_all
 rw [e] at h1;exact h1
structure GW (X:EngD) (w0 w:World) (q:Nat) (I:Ids) (σ:St) (t:X.T) (N:Nat) (v:Value) (es:List (Int×Value)) (ls:List Ln):Prop where
 en:EngAt X w q I σ t N
 row:w.ownsRow w0.heap.size 48 2 v es.length (lnRow es)
 nil:es=[]→v=.slice none 0 0
 by_ : ∀ (j:Nat) (x:Int×Value),es[j]? = some x→∃ l,ls[j]? = some (x.1,l)∧ByAt w x.2 l (fun g=>w0.heap.size≤g∧g < w.heap.size∧¬ Far I g∧v.ownBlock≠some g)
 len:ls.length=es.length
 ba : ∀ ad,I.ba=some ad→v.ownBlock≠some ad.block
 out : ∀ b,v.ownBlock=some b→¬ Far I b
 gr:w0.grownBy w none
 fr : ∀ i,Far I i→w0.heap.size≤i
section
variable {X:EngD} {w0 w w':World} {q:Nat} {I I':Ids} {σ σ':St} {t t':X.T} {N M:Nat} {v:Value} {es:List (Int×Value)} {ls:List Ln}
theorem EngAt.far (h:EngAt X w q I σ t N) (i:Nat) (hi:Far I i):i < w.heap.size:=hi.elim (fun h'=>h.st.lt h') (fun h'=>h.st.exlt i h')
theorem GW.g (h:GW X w0 w q I σ t N v es ls) (L:EngL X) (hg:w.grownBy w' none):GW X w0 w' q I σ t N v es ls:=
 ⟨h.en.g L hg,ownsRow_g h.row hg,h.nil,fun j x hx=>by
  obtain ⟨l,h1,h2⟩:=h.by_ j x hx;exact ⟨l,h1,h2.chg (S:=fun _=>False) (Chg.of hg) (fun _ _ h=>h) (fun i hi=>⟨hi.1,Nat.lt_of_lt_of_le hi.2.1 hg.size,hi.2.2⟩)⟩,h.len,h.ba,h.out,g2 h.gr hg,h.fr⟩
theorem GW.turn (h:GW X w0 w q I σ t N v es ls) (he:EngAt X w' q I' σ' t' M) (hc:Chg (Far I) w w') (hba:I'.ba=I.ba) (hf : ∀ i,Far I' i→Far I i∨w.heap.size≤i):GW X w0 w' q I' σ' t' M v es ls:=by
 have hsz:=h.gr.size;refine ⟨he,rowChg h.row hc (fun k hk=>h.out k hk),h.nil,fun j x hx=>?_,h.len,by rw [hba];exact h.ba,fun b hb hF=>?_,((Chg.of h.gr).trans hc).non h.fr,fun i hi=>?_⟩
 ·obtain ⟨l,h1,h2⟩:=h.by_ j x hx;refine ⟨l,h1,h2.chg hc (fun i hi=>hi.2.2.1) (fun i hi=>⟨hi.1,Nat.lt_of_lt_of_le hi.2.1 hc.size,fun hF=>?_,hi.2.2.2⟩)⟩;rcases hf i hF with h3 | h3
  ·exact hi.2.2.1 h3
  ·have:=hi.2.1;omega
 ·rcases hf b hF with h3 | h3
  ·exact h.out b hb h3
  ·have:=(h.row.lt b hb).2;omega
 ·rcases hf i hi with h3 | h3
  ·exact h.fr i h3
  ·omega
theorem GW.newby (h:GW X w0 w q I σ t N v es ls) {s:Value} {l:List UInt8} (hb:ByAt w' s l (fun i=>w.heap.size≤i∧i < w'.heap.size)):ByAt w' s l (fun g=>w0.heap.size≤g∧g < w'.heap.size∧¬ Far I g∧v.ownBlock≠some g):=
 hb.chg (S:=fun _=>False) (Chg.refl _ _) (fun _ _ h=>h) (fun i hi=>⟨by have:=h.gr.size;omega,hi.2,fun hF=>by have:=h.en.far i hF;omega,fun e=>by have:=(h.row.lt i e).2;omega⟩)
theorem GW.push (L:EngL X) (h:GW X w0 w q I σ t N v es ls) {g9 c9:Nat} {x:Int×Value} {l:List UInt8} (hrow:w'.ownsRow w0.heap.size 48 2 (.slice (some ⟨g9,0,none⟩) (es.length+1) c9) (es.length+1) (lnRow es++lnC x)) (hg:w.grownBy w' v.ownBlock) (hat:v.ownBlock=some g9∨g9=w.heap.size)
  (hx:ByAt w x.2 l (fun g=>w0.heap.size≤g∧g < w.heap.size∧¬ Far I g∧v.ownBlock≠some g)):GW X w0 w' q I σ t N (.slice (some ⟨g9,0,none⟩) (es.length+1) c9) (es++[x]) (ls++[(x.1,l)]):=by
 have hN:0 < σ.bs.length:=by have:=h.en.inv.wf.may.l1;omega
 have hno : ∀ b,v.ownBlock=some b→w0.heap.size≤b:=fun b hb=>(h.row.lt b hb).1;have hc:Chg (fun i=>v.ownBlock=some i) w w':=⟨hg.os,hg.tape,hg.output,hg.size,fun i hi hn=>hg.block i hi (fun e=>hn e.symm)⟩;have hcn:w0.grownBy w' none:=((Chg.of h.gr).trans hc).non hno;have hv : ∀ b,v.ownBlock=some b→(∃ cur,w.heap[b]? = some (.cells cur 48 (0,0)))∧∃ E,w.cell? ⟨b,0,none⟩=some (.int .i64 E):=fun b hb=>by
  refine ⟨ownsRow_ty h.row hb,?_⟩;cases es with
  | nil=>rw [h.nil rfl] at hb;cases hb
  | cons y ys=>
   refine ⟨y.1,?_⟩;have h1:=h.row.cells hb 0 (.int .i64 y.1) rfl
   simpa [Addr.add] using h1
 have hst:=((h.en.st.addrow hN hv h.ba).exch hc (fun i hi=>.inr hi)).lessex hN (ex:=I.ex) (fun i hi=>.inl hi);have hoo : ∀ i,I.ex i→¬ v.ownBlock=some i:=fun i hi hb=>h.out i hb (.inr hi);have hnew : ∀ i,i < w.heap.size→v.ownBlock≠some i→g9≠i:=fun i hi hn e=>by
  rcases hat with h1 | h1
  ·exact hn (by rw [h1,e])
  ·omega
 have hup : ∀ {y:Int×Value} {m:List UInt8},ByAt w y.2 m (fun g=>w0.heap.size≤g∧g < w.heap.size∧¬ Far I g∧v.ownBlock≠some g) →
   ByAt w' y.2 m (fun g=>w0.heap.size≤g∧g < w'.heap.size∧¬ Far I g∧(Value.slice (some ⟨g9,0,none⟩) (es.length+1) c9).ownBlock≠some g):=fun hy=>
  hy.chg hc (fun i hi=>hi.2.2.2) (fun i hi=>⟨hi.1,Nat.lt_of_lt_of_le hi.2.1 hg.size,hi.2.2.1,fun e=>hnew i hi.2.1 hi.2.2.2 (by simpa [Value.ownBlock] using e)⟩)
 refine ⟨⟨hst,L.chg h.en.own hc hoo,h.en.inv,h.en.rel,h.en.par⟩,?_,fun e=>?_,fun j y hy=>?_,?_,fun ad had e=>?_,fun b hb hF=>?_,hcn,h.fr⟩
 ·rw [lnRow_snoc]
  simpa using hrow
 ·simp at e
 ·rcases Nat.lt_or_ge j es.length with hl | hl
  ·rw [List.getElem?_append_left hl] at hy;obtain ⟨m,h1,h2⟩:=h.by_ j y hy;exact ⟨m,by rw [List.getElem?_append_left (by rw [h.len];exact hl)];exact h1,hup h2⟩
  ·rw [List.getElem?_append_right hl] at hy;have hj:j - es.length=0:=by
    have:=(List.getElem?_eq_some_iff.1 hy).1;simp at this;omega
   rw [hj] at hy;obtain rfl:x=y:=by simpa using hy
   refine ⟨l,?_,hup hx⟩;rw [List.getElem?_append_right (by rw [h.len];exact hl),h.len,hj];rfl
 ·simp [h.len]
 ·have e2:g9=ad.block:=by simpa [Value.ownBlock] using e
  rcases hat with h1 | h1
  ·exact h.ba ad had (by rw [h1,e2])
  ·have hb:=h.en.st.bal;rw [had] at hb;have:=Ints.lt hb hN;omega
 ·have e2:g9=b:=by simpa [Value.ownBlock] using hb
  rcases hat with h1 | h1
  ·exact h.out b (by rw [h1,e2]) hF
  ·have:=h.en.far b hF;omega
end
section
variable {X:EngD} {kd:Int} {w0:World} {ad:Option Addr} {c:Nat} {bs:List Int} {S B:Int}
set_option maxHeartbeats 16000000 in
theorem run_eng (R:EngR X kd) (hb:Ints .u64 w0 ad bs) (hm:MayBe bs S B) (hE:w0.cell? ⟨0,0,none⟩=some (.iface 199 (.agg #[.pointer (some ⟨1,42,none⟩)]))) {evs:List Ev} {ga:Option Addr} {ce:Nat} (hB : ∀ e∈evs,EvB e) (hr:EvRow w0 w0.heap.size ga evs) (hn:evs.length≤500) :
  Calls Tryz.prog 14 #[.int .i64 kd,cfgV ad bs.length c S B,.slice ga evs.length ce] w0 fun e w'=>∃ v es ls q I σ t,e=.returned (.tuple #[v,.nilIface])∧GW X w0 w' q I σ t (1+evs.length) v es ls∧TrC X (st0 bs S B) X.t0 evs ls σ t:=by
 have HB:=lh hb;have h0lt:0 < w0.heap.size:=by
  rcases Nat.eq_zero_or_pos w0.heap.size with h0 | h
  ·simp [World.cell?,h0] at hE
  ·exact h
 have HE:=lh hE;have HR:=lh hr;have HEB:=lh hB;clear hE hr hB;have L:=R.laws;clear hb;unfold cfgV;go_enter Tryz.func14,Tryz.ntmps14
 go_upto_region 1 with (fail)
 refine nmC1 ?_;intro W b0 hz hg;obtain ⟨q,hq_q⟩ : ∃ q,q=w0.heap.size:=⟨_,rfl⟩;rw [← hq_q] at b0 hz h0lt ⊢;have HQ_q:=lh hq_q;clear hq_q;have HQ:=lh b0;have HG:=lh hg;clear b0 hg;replace HB:=lh (Ints.kept HB.out HG.out);obtain ⟨c0,c1,c2⟩:=HQ.out.c3;go_wp2_with fail
 refine (R.of (bs:=bs) HB.out hm).mono ?_;rintro e w1 ⟨qe,I,rfl,hen,hg,hm1⟩;have hwW:=HG.out.size;replace HG:=lh (g2 HG.out hg);have hgw:GW X w0 w1 qe I (st0 bs S B) X.t0 1 (.slice none 0 0) [] []:=⟨hen,World.ownsRow_nil _ _ _ _,fun _=>rfl,(fun j x h=>by simp at h),rfl,fun ad _ e=>(by cases e),(fun b hb=>by cases hb),HG.out,fun i hi=>Nat.le_trans hwW (hm1 i hi)⟩;have HGW:=lh hgw;obtain ⟨p0,hp0⟩ : ∃ p0,p0=I.p:=⟨_,rfl⟩;rw [← hp0];have HP0:=lh hp0.symm;clear hg c0 c1 c2 HB HQ hwW hm1 hen hgw HG hp0;go_wp2_with fail
 have mf:=fun w=>R.mf qe w;have mh:=fun w=>R.mh qe w;have cf:=R.cf;have ch:=R.ch
 go_loopw [27,11] (fun v27 v11 wr=>∃ (j:Nat),v27=.int .i64 (j:Int)∧j≤evs.length∧∃ I σ t es ls,GW X w0 wr qe I σ t (1+j) v11 es ls∧I.p=p0∧es.length=j∧TrC X (st0 bs S B) X.t0 (evs.take j) ls σ t) (fun v27 _ _=>evs.length - (intOf v27).toNat)
 case atStart=>exact ⟨0,rfl,by omega,_,_,_,_,_,HGW.out,HP0.out,rfl,rfl,rfl,rfl⟩
 case round=>
  obtain ⟨j,rfl,hj,I,σ,t,es,ls,hgw,hip,hel,htr⟩:=hrel;have HGW:=lh hgw;have HIP:=lh hip;have HEL:=lh hel;have HTR:=lh htr;clear hgw hip hel htr;by_cases hlt:j < evs.length
  ·obtain ⟨x,hx⟩ : ∃ x,evs[j]? = some x:=⟨_,List.getElem?_eq_getElem hlt⟩;obtain ⟨ge,rfl,hge,hre⟩ : ∃ ge,ga=some ⟨ge,0,none⟩∧ge < w0.heap.size∧∀ j e,evs[j]? = some e→∃ cells,EvAt w0 (fun i=>i < w0.heap.size) e cells∧∀ t v,cells[t]? = some v→w0.cell? ⟨ge,j * 28+t,none⟩=some v:=by
    rcases HR.out with h | h
    ·rw [h] at hlt;simp at hlt
    ·exact h
   obtain ⟨cells,hev,hce⟩:=hre j x hx;have hxB:=HEB.out x (List.mem_of_getElem? hx);have hevr:EvAt wr (fun i=>i < wr.heap.size∧¬ Far I i) x cells:=
    hev.chg (S:=fun _=>False) (Chg.of HGW.out.gr) (fun _ _ h=>h) (fun i hi=>⟨Nat.lt_of_lt_of_le hi HGW.out.gr.size,fun hm=>by have:=HGW.out.fr i hm;omega⟩)
   have hcer : ∀ t v,cells[t]? = some v→wr.cell? ⟨ge,j * 28+t,none⟩=some v:=fun t v h=>cell_g (hce t v h) HGW.out.gr;have htk:evs.take (j+1)=evs.take j++[x]:=by rw [List.take_add_one,hx];rfl
   obtain ⟨va,vc,pa,pc,vw,vwc,aw,ac,bw,bc,rfl,_⟩:=id hevr;have HEV:=lh hevr;have HCE:=lh hcer;have HXB:=lh hxB;have HTK:=lh htk;clear hevr hcer hxB htk;clear hev hce hre hx;go_upto_region 7 with (fail)
   go_wp2_with (first
    | refine wpList_load_blk (off:=0) HBE.out rfl _ rfl rfl _ Tryz.underlying68 rfl (evC x va vc pa pc vw vwc aw ac bw bc) (by as_aux_lemma=>kernel_rfl) rfl ?_
    | refine wpList_load_at (evC x va vc pa pc vw vwc aw ac bw bc) HCE.out rfl _ rfl rfl _ Tryz.underlying68 rfl (by as_aux_lemma=>kernel_rfl) ?_
    | (refine wpList_store_new rfl (evC x va vc pa pc vw vwc aw ac bw bc) ⟨_,_,rfl,rfl,rfl⟩ (by as_aux_lemma=>kernel_rfl) rfl (by simp [evC,Value.oneCell']) ?_;intro w2 hbE hgE;have HBE:=lh hbE;replace HEV:=lh (HEV.out.gg hgE);replace HGW:=lh (HGW.out.g L hgE);clear hbE hgE))
   refine (L.feed HGW.out.en (by omega) HXB.out HEV.out).mono ?_;rintro e w3 ⟨E,I3,σ3,cs3,rfl,hap,hen,hpp,hba,hchg,hfar⟩;have hgw:=HGW.out.turn hen hchg hba hfar;replace HIP:=lh (hpp.trans HIP.out);have HOLD:=lh (And.intro HGW.out.en.inv (And.intro HGW.out.en.rel (And.intro hap hen.rel)));clear HGW HBE HEV HCE hap hen hpp hba hchg hfar;have HGW:=lh hgw;clear hgw;go_wp2_with fail
   refine (number_err E w3 (cell_g HE.out HGW.out.gr)).mono ?_;rintro e w4 ⟨rfl,hg⟩;replace HGW:=lh (HGW.out.g L hg);clear hg;go_wp2_with fail
   obtain ⟨ks,hks⟩:=rising_ex HGW.out.en.inv.wf;have HKS:=lh hks;clear hks;refine (L.head HGW.out.en (by omega) HKS.out).mono ?_;rintro e w5 ⟨hd,t3,rfl,hhd,hin,heq,hen,hc⟩;have hgw:=HGW.out.turn hen (hc.mono (fun i hi=>.inr hi)) rfl (fun i hi=>.inl hi);have HHD:=lh (And.intro hhd (And.intro heq hen.rel));clear HGW hhd heq hen hc;have HGW:=lh hgw;clear hgw;have HIN:=lh hin;clear hin;go_wp2_with fail
   have hn3:=HGW.out.en.inv.wf.n;have hcan:=canon_calls HGW.out.en.st HGW.out.en.inv.wf HGW.out.en.par HKS.out (sortUpTo_any _ (by omega)) HIN.out;rw [HIP.out] at hcan;refine hcan.mono ?_;clear hcan;rintro e w6 ⟨s1,rfl,hs1,hg⟩;have HG5:=HGW;replace HGW:=lh (HGW.out.g L hg);obtain ⟨l,hl⟩:=canon_u8 σ3 ks hd;have hpos:0 < (canonF σ3 ks hd).length:=by
    unfold canonF;simp only [List.length_append,putF_len];simp [headN];omega
   rw [hl] at hs1 hpos;have hby:=ByAt.of hs1 hpos;have hbyr:=HG5.out.newby hby;have HBY:=lh hbyr;have hst1:Stp1 X σ t x (E,l) σ3 t3:=⟨1+j,cs3,ks,hd,HOLD.out.1,HOLD.out.2.1,HXB.out,HOLD.out.2.2.1,HOLD.out.2.2.2,HKS.out,HHD.out.1,HIN.out,hl.symm,HHD.out.2.1,HHD.out.2.2⟩;have htr3:=HTR.out.snoc hst1;rw [← HTK.out] at htr3;have HTR3:=lh htr3;obtain ⟨sa,sc,rfl,_⟩:=own_slice hs1;obtain ⟨L1,hL1⟩ : ∃ L1,L1=(u8s l).length:=⟨_,rfl⟩;rw [← hL1] at HBY;rw [← hL1];clear hs1 hL1 hg HG5 hby hbyr hst1 htr3 hl hpos HOLD HHD;obtain ⟨i0,hi0⟩:=elem_line2;have HI:=lh hi0;clear hi0;have hsz6:=HGW.out.gr.size;have hel2:=HEL.out;go_wp2_with (at_builtin;refine wpList_append_lies _ rfl _ _ 40 rfl w0.heap.size 48 i0 (.agg #[.int .i64 0,.slice none 0 0]) 2 32 Tryz.underlying40 HI.out.1 HI.out.2.1 HI.out.2.2.1 HI.out.2.2.2 rfl (by decide) _ es.length (lnRow es) rfl (HGW.out.row.alloc _) ⟨w6.heap.size,0,none⟩ 1 1 [.int .i64 E,.slice sa L1 sc] rfl rfl (World.news_of_block (MapKept.heap_alloc _ _).1) (by simp [Value.oneCell']) (by decide) (by unfold maxLen;omega) (by omega) (by simp;omega) _ rfl ?_;intro gl cl w7 hl hgl7 hatl hltl;have HL:=lh (And.intro hl (And.intro hgl7 hatl));clear hl hgl7 hatl hltl)
   have hgw:=(HGW.out.g L (World.grownBy_alloc w6 _ none)).push L (x:=(E,.slice sa L1 sc)) (l:=l) HL.out.1 HL.out.2.1 HL.out.2.2 (HBY.out.chg (S:=fun _=>False) (Chg.of (World.grownBy_alloc w6 _ none)) (fun _ _ h=>h) (fun i hi=>⟨hi.1,Nat.lt_of_lt_of_le hi.2.1 (World.grownBy_alloc w6 _ none).size,hi.2.2⟩));rw [hel2] at hgw;exact ⟨⟨j+1,by simp,by omega,_,_,_,es++[(E,.slice sa L1 sc)],ls++[(E,l)],hgw,HIP.out,by rw [List.length_append,hel2];rfl,HTR3.out⟩,by simp [intOf];omega⟩
  ·have hje:j=evs.length:=by omega
   have htr:=HTR.out;rw [hje,List.take_length] at htr;have HTR2:=lh htr;have HJ:=lh hje;clear htr hje HTR;go_wp2_with fail
   go_ret2;exact ⟨_,es,ls,qe,I,σ,t,rfl,by rw [← HJ.out];exact HGW.out,HTR2.out⟩
end
end Go.Proofs.YtndfpmboanohcaaGreatDoor
