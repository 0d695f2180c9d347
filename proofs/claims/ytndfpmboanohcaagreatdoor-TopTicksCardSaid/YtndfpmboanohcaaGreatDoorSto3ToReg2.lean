/- Contract of (*store.Store).raise where nothing is later. -/
import Derived.Test.YtndfpmboanohcaaGreatDoorSto2
namespace Go.Proofs.YtndfpmboanohcaaGreatDoor
set_option maxRecDepth 100000
open Go.RowKit Go.Maps SkipPure
section
variable {w:World} {I:Ids} {σ:St}
end
section
variable {w w':World} {I:Ids} {σ:St}
theorem nodup6 {a b c d e f:Nat} (h:[a,b,c,d,e,f].Nodup):a≠b∧a≠c∧a≠d∧a≠e∧a≠f∧b≠c∧b≠d∧b≠e∧b≠f∧c≠d∧c≠e∧c≠f∧d≠e∧d≠f∧e≠f:=by
 simp only [List.nodup_cons,List.mem_cons,List.not_mem_nil,or_false,not_or,not_false_eq_true,and_true,List.nodup_nil] at h;obtain ⟨⟨a1,a2,a3,a4,a5⟩,⟨b1,b2,b3,b4⟩,⟨c1,c2,c3⟩,⟨d1,d2⟩,e1⟩:=h;exact ⟨a1,a2,a3,a4,a5,b1,b2,b3,b4,c1,c2,c3,d1,d2,e1⟩
theorem ChainAt.chg {S:Nat→Prop} {q1 q2 p tp tb n:Nat} {f:Int} {F:Int→Option (Int×Int×Int)} {root:Int} (h:ChainAt w q1 q2 p tp tb n f F root) (hg:Chg S w w') (h1:¬ S q1) (h2:¬ S q2) (h3:¬ S p) (h4:¬ S tp) (h5:¬ S tb) :
  ChainAt w' q1 q2 p tp tb n f F root:=⟨hg.blk h.b1 h1,hg.blk h.b2 h2,hg.cell h.c3 h3,hg.tree h.tree h4 h5⟩
theorem chain_calls2 {p tp tb n:Nat} {f:Int} {F:Int→Option (Int×Int×Int)} (c3:w.cell? ⟨p,3,none⟩=some (.pointer (some ⟨tp,0,none⟩))) (ht:TreeAt w tp tb n f F) (root:Int) :
  Calls Tryz.prog 51 #[.pointer (some ⟨p,0,none⟩),.int .u64 root] w fun e w'=>∃ q1 q2,e=.returned (chainV q1 q2)∧ChainAt w' q1 q2 p tp tb n f F root∧w.heap.size≤q1∧w.heap.size≤q2∧w.grownBy w' none:=by
 have HC:=lh c3;have HT:=lh ht;clear c3 ht;go_enter Tryz.func51,Tryz.ntmps51
 go_wp2;go_ret;obtain ⟨⟨h1,h2⟩,h3,h4⟩:=alloc2 w #[.pointer (some ⟨p,0,none⟩)] #[.int .u64 root] 52 27;exact ⟨_,_,rfl,⟨h1,h2,cell_g HC.out h4,HT.out.kept h4 (by simp)⟩,by omega,by omega,h4⟩
theorem StoreAt.treed (h:StoreAt w I σ) {n:Nat} {f:Int} {F:Int→Option (Int×Int×Int)} (ht:TreeAt w' I.tp I.tb n f F) (hg:w.grownBy w' (some I.tb)) :
  StoreAt w' I { σ with n:=n,f:=f,F:=F }:=by
 obtain ⟨h1,h2,h3,h4,h5,h6,h7,h8,h9,h10⟩:=h;have hc:Chg (fun i=>i=I.tb) w w':=Chg.one hg rfl;obtain ⟨a1,a2,a3,a4,a5,b1,b2,b3,b4,c1,c2,c3,d1,d2,e1⟩:=nodup6 h7;exact ⟨hc.blk h1 a2,h2.chg hc (fun ad ha e=>h8 ad ha (.inl (.inr (.inr (.inl e))))),ht,hc.votes h4 (Ne.symm c1),h5.chg hc (Ne.symm c2) (fun i hi e=>hi (.inl (.inr (.inr (.inl e))))),h6.chg hc (Ne.symm c3),h7,h8,fun i hi=>Nat.lt_of_lt_of_le (h9 i hi) hg.size,h10⟩
theorem StoreAt.ledgered (h:StoreAt w I σ) {L:Int→Option Led} (hl:LMap w' (fun i=>¬ Far I i) I.lm σ.bs.length L) (hg:w.grownBy w' (some I.lm)) :
  StoreAt w' I { σ with L:=L }:=by
 obtain ⟨h1,h2,h3,h4,h5,h6,h7,h8,h9,h10⟩:=h;have hc:Chg (fun i=>i=I.lm) w w':=Chg.one hg rfl;obtain ⟨a1,a2,a3,a4,a5,b1,b2,b3,b4,c1,c2,c3,d1,d2,e1⟩:=nodup6 h7;exact ⟨hc.blk h1 a4,h2.chg hc (fun ad ha e=>h8 ad ha (.inl (.inr (.inr (.inr (.inr (.inl e))))))),hc.tree h3 b3 c2,hc.votes h4 d1,hl,h6.chg hc (Ne.symm e1),h7,h8,fun i hi=>Nat.lt_of_lt_of_le (h9 i hi) hg.size,h10⟩
theorem wp_store_any {P:Program} {w:World} {o:Oper} {a:Act} {K:Act→World→Prop} {Q:Exit→Act→World→Prop} {kt et:TypeId} {b n:Nat} {F:Int→Option Value} (h:RawMap P kt w b n F) (m x v:Operand) (t:TypeId)
  (hop:o.op=Op.mapUpdate t m x v∨o.op=Op.insert t m x v)
  (hk:P.underlying kt=some (.int .u64)) (ht:P.underlying t=some (.map kt et)) (hn:n < maxLen) {k:Int} (hin:inU k) (val:Value)
  (hm:a.eval m=.map (some b)) (hx:a.eval x=.int .u64 k) (hv:a.eval v=val)
  (hK : ∀ w',RawMap P kt w' b (if (F k).isSome then n else n+1) (upd F k val)→w.grownBy w' (some b)→K (a.put o.dst undef) w'):o.wp P a w K Q:=by
 obtain ⟨w',hrun,r1,r2⟩:=h.store hk ht hn hin val;unfold Oper.wp;rcases hop with hop | hop;all_goals
  simp [execOp,hop,hm,hx,hv,hrun,Result.andThen];exact hK _ r1 r2
def ledSet (L:Int→Option Led) (k:Int) (x:Led):Int→Option Led:=fun j=>if j=k then some x else L j
theorem wp_ledger {o:Oper} {a:Act} {K:Act→World→Prop} {Q:Exit→Act→World→Prop} {ok:Nat→Prop} {b N:Nat} {L:Int→Option Led} (h:LMap w ok b N L) {ks:List Int} (hks : ∀ k,(L k).isSome=true→k∈ks) (hl:ks.length≤1000000)
  (hok:¬ ok b) (m x v:Operand) (hop:o.op=Op.mapUpdate 74 m x v) {k:Int} (hin:inU k) (X:Led) {val:Value} (hX:LedAt w ok N X val)
  (hm:a.eval m=.map (some b)) (hx:a.eval x=.int .u64 k) (hv:a.eval v=val)
  (hK : ∀ w',LMap w' ok b N (ledSet L k X)→w.grownBy w' (some b)→K (a.put o.dst undef) w'):o.wp Tryz.prog a w K Q:=by
 obtain ⟨n,js,G,h1,h2,h3,h4,h5⟩:=h;have hn:=nodup_sub h2 (fun k hk=>hks k (h4 k hk));refine wp_store_any h1 m x v 74 (.inl hop) Tryz.underlying27 Tryz.underlying74 (by unfold maxLen;omega) hin val hm hx hv ?_;intro w' hr hgr;refine hK w' ?_ hgr;have hc:Chg (fun i=>i=b) w w':=Chg.one hgr rfl;have ho : ∀ i,ok i→¬ i=b:=fun i hi e=>hok (e ▸ hi);have hXX:=hX.chg hc ho;have hrest : ∀ r,(ledSet L k X r=none→upd G k val r=none)∧∀ x,ledSet L k X r=some x→∃ v,upd G k val r=some v∧LedAt w' ok N x v:=by
  intro r;unfold ledSet upd;by_cases hrk:r=k
  ·rw [if_pos hrk,if_pos hrk];exact ⟨by simp,fun x e=>⟨val,rfl,by cases e;exact hXX⟩⟩
  ·rw [if_neg hrk,if_neg hrk];refine ⟨(h5 r).1,fun x hx=>?_⟩;obtain ⟨v,hv,hl⟩:=(h5 r).2 x hx;exact ⟨v,hv,hl.chg hc ho⟩
 have hsome : ∀ j∈js,(ledSet L k X j).isSome=true:=fun j hj=>by
  unfold ledSet;split
  ·rfl
  ·exact h4 j hj
 cases hGk:G k with
 | some y=>
  rw [hGk] at hr;exact ⟨n,js,_,hr,h2,h3,hsome,hrest⟩
 | none=>
  rw [hGk] at hr;have hLk:L k=none:=by
   cases hL:L k with
   | none=>rfl
   | some x=>
    obtain ⟨v,hv,_⟩:=(h5 k).2 x hL;rw [hGk] at hv;cases hv
  have hkj:k∉js:=fun hk=>by
   have:=h4 k hk;rw [hLk] at this;cases this
  refine ⟨n+1,k :: js,_,hr,List.nodup_cons.2 ⟨hkj,h2⟩,by simp [h3],?_,hrest⟩;intro j hj;rcases List.mem_cons.1 hj with rfl | hj
  ·simp [ledSet]
  ·exact hsome j hj
theorem StoreAt.s0 (h:StoreAt w I σ):w.cell? ⟨I.p,0,none⟩=some (.slice I.ba σ.bs.length I.bc):=h.blk.at 0
theorem StoreAt.s1 (h:StoreAt w I σ):w.cell? ⟨I.p,1,none⟩=some (.int .i64 σ.S):=h.blk.at 1
theorem StoreAt.s2 (h:StoreAt w I σ):w.cell? ⟨I.p,2,none⟩=some (.int .i64 σ.B):=h.blk.at 2
theorem StoreAt.s3 (h:StoreAt w I σ):w.cell? ⟨I.p,3,none⟩=some (.pointer (some ⟨I.tp,0,none⟩)):=h.blk.at 3
theorem StoreAt.s4 (h:StoreAt w I σ):w.cell? ⟨I.p,4,none⟩=some (.slice (some ⟨I.vb,0,none⟩) σ.bs.length σ.bs.length):=h.blk.at 4
theorem StoreAt.s5 (h:StoreAt w I σ):w.cell? ⟨I.p,5,none⟩=some (.int .i64 σ.slot):=h.blk.at 5
theorem StoreAt.s6 (h:StoreAt w I σ):w.cell? ⟨I.p,6,none⟩=some (.int .u64 σ.boosted):=h.blk.at 6
theorem StoreAt.s7 (h:StoreAt w I σ):w.cell? ⟨I.p,7,none⟩=some (.int .i64 σ.je):=h.blk.at 7
theorem StoreAt.s8 (h:StoreAt w I σ):w.cell? ⟨I.p,8,none⟩=some (.int .u64 σ.jr):=h.blk.at 8
theorem StoreAt.s9 (h:StoreAt w I σ):w.cell? ⟨I.p,9,none⟩=some (.int .i64 σ.fe):=h.blk.at 9
theorem StoreAt.s10 (h:StoreAt w I σ):w.cell? ⟨I.p,10,none⟩=some (.int .u64 σ.fr):=h.blk.at 10
theorem StoreAt.s11 (h:StoreAt w I σ):w.cell? ⟨I.p,11,none⟩=some (.map (some I.lm)):=h.blk.at 11
theorem StoreAt.s12 (h:StoreAt w I σ):w.cell? ⟨I.p,12,none⟩=some (.map (some I.gm)):=h.blk.at 12
theorem StoreAt.s13 (h:StoreAt w I σ):w.cell? ⟨I.p,13,none⟩=some I.ch:=h.blk.at 13
end
end Go.Proofs.YtndfpmboanohcaaGreatDoor
namespace Go.Proofs.YtndfpmboanohcaaGreatDoor
open Go
section
variable {P:Program} {ops:Array Oper} {Q:Exit→Act→World→Prop} {md:Region.Mode} {S:World→Prop} {N:List Nat}
def wpAnyM (P:Program) (md:Region.Mode) (ops:Array Oper) (Q:Exit→Act→World→Prop) (S:World→Prop) (N:List Nat):Nat→Array Bool→Act→World→Prop
 | 0,listed,a,w=>Region.ready md ops listed=[]∧Q .normal a w
 | fuel+1,listed,a,w=>
  (Region.ready md ops listed=[]→Q .normal a w) ∧
  ∀ i∈Region.ready md ops listed,wpOp P ops Q i (fun a' w'=>((S w→S w')∨i∈N)∧wpAnyM P md ops Q S N fuel (listed.setIfInBounds i true) a' w') a w
theorem wpAny_of_late : ∀ (fuel:Nat) (listed:Array Bool) (a:Act) (w:World),wpAnyM P md ops Q S N fuel listed a w→wpAny P md ops Q fuel listed a w
 | 0,_,_,_,h=>h
 | fuel+1,_,_,_,h=>⟨h.1,fun i hi=>wpOp_mono (fun a' w' h'=>wpAny_of_late fuel _ a' w' h'.2) (h.2 i hi)⟩
theorem wpAnyM_first {i:Nat} {oi:Oper} {v:Value} (hi:ops[i]? = some oi) (T:World→Prop) (hw:(∀ w,T w)∨T=S∧∀ n∈N,waitsB md ops n i=true) (hsel : ∀ (j:Nat) (o:Oper) cs b,ops[j]? = some o→o.op≠.select cs b)
  (hQ : ∀ c a w,Q (.panic c) (a.put oi.dst v) w→Q (.panic c) a w) :
  ∀ (fuel:Nat) (listed:Array Bool) (a:Act) (w:World),
   (∀ j oj,ops[j]? = some oj→j≠i→listed.getD j true=false→(∀ e∈oj.after,Region.binds md e=true→e.on≠i)→oi.apart ops oj=true) →
   i∈Region.ready md ops listed→YieldsIf P ops T oi v a→T w →
   wpAnyM P md ops Q S N fuel (listed.setIfInBounds i true) (a.put oi.dst v) w→wpAnyM P md ops Q S N (fuel+1) listed a w:=by
 intro fuel;induction fuel with
 | zero=>
  intro listed a w _ hr hy hS H;refine ⟨fun h=>(by rw [h] at hr;cases hr),fun j hj=>?_⟩;by_cases hji:j=i
  ·subst hji;exact hy.wpOp hi hS ⟨.inl id,H⟩
  ·have:=ready_mono hj hji;rw [H.1] at this;cases this
 | succ fuel ih=>
  intro listed a w hfree hr hy hS H;refine ⟨fun h=>(by rw [h] at hr;cases hr),fun j hj=>?_⟩;by_cases hji:j=i
  ·subst hji;exact hy.wpOp hi hS ⟨.inl id,H⟩
  ·have h1:=H.2 j (ready_mono hj hji);obtain ⟨hjun,oj,hoj,hall⟩:=mem_ready.1 hj;have hnot : ∀ e∈oj.after,Region.binds md e=true→e.on≠i:=fun e he hb heq=>by
    have h1:=hall e he hb;have h0:=(mem_ready.1 hr).1;rw [heq] at h1;rcases Nat.lt_or_ge i listed.size with h' | h'
    ·simp [h'] at h0 h1;rw [h0] at h1;cases h1
    ·simp [Array.getElem?_eq_none h'] at h1
   have h2:=wpOp_putIf hoj (hfree j oj hoj hji hjun hnot) (fun cs b=>hsel i oi cs b hi) (fun cs b=>hsel j oj cs b hoj) hQ hy h1;have hfree' : ∀ k ok,ops[k]? = some ok→k≠i→(listed.setIfInBounds j true).getD k true=false →
     (∀ e∈ok.after,Region.binds md e=true→e.on≠i)→oi.apart ops ok=true:=fun k ok hk hki hun hno=>by
    refine hfree k ok hk hki ?_ hno;by_cases hjk:j=k
    ·subst hjk;exact hjun
    ·rw [getD_set_ne true hjk] at hun;exact hun
   refine wpOp_mono (fun a' w' h3=>?_) h2;have hs:T w':=by
    rcases hw with hw | ⟨rfl,hw⟩
    ·exact hw w'
    ·rcases h3.2.1 with h4 | h4
     ·exact h4 hS
     ·exact absurd hj (waits_not_ready (hw j h4) hr)
   refine ⟨h3.2.1,ih (listed.setIfInBounds j true) a' w' hfree' (ready_mono hr (Ne.symm hji)) h3.1 hs ?_⟩;rw [Array.setIfInBounds_comm _ _ hji];exact h3.2.2
theorem wpAnyM_take {i:Nat} {oi:Oper} {v:Value} {fuel:Nat} {listed:Array Bool} {a:Act} {w:World} (hi:ops.toList[i]? = some oi)
  (hr:(Region.ready md ops listed).contains i=true) (hs:Region.noSelect ops=true) (hf:Region.free md ops listed i=true) (hw:N.all (fun n=>waitsB md ops n i)=true)
  (hQ : ∀ c a w,Q (.panic c) (a.put oi.dst v) w→Q (.panic c) a w) (hy:YieldsIf P ops S oi v a) (hS:S w)
  (h:wpAnyM P md ops Q S N fuel (listed.setIfInBounds i true) (a.put oi.dst v) w):wpAnyM P md ops Q S N (fuel+1) listed a w:=
 wpAnyM_first (by simpa using hi) S (.inr ⟨rfl,fun n hn=>List.all_eq_true.1 hw n hn⟩) (Region.noSelect_spec hs) hQ fuel listed a w (Region.free_spec (by simpa using hi) hf) (by simpa using hr) hy hS h
theorem wpAnyM_pure {i:Nat} {oi:Oper} {v:Value} {fuel:Nat} {listed:Array Bool} {a:Act} {w:World} (hi:ops.toList[i]? = some oi)
  (hr:(Region.ready md ops listed).contains i=true) (hs:Region.noSelect ops=true) (hf:Region.free md ops listed i=true)
  (hQ : ∀ c a w,Q (.panic c) (a.put oi.dst v) w→Q (.panic c) a w) (hy:YieldsIf P ops (fun _=>True) oi v a)
  (h:wpAnyM P md ops Q S N fuel (listed.setIfInBounds i true) (a.put oi.dst v) w):wpAnyM P md ops Q S N (fuel+1) listed a w:=
 wpAnyM_first (by simpa using hi) (fun _=>True) (.inl fun _=>trivial) (Region.noSelect_spec hs) hQ fuel listed a w (Region.free_spec (by simpa using hi) hf) (by simpa using hr) hy trivial h
def AllReadyM (P:Program) (md:Region.Mode) (ops:Array Oper) (Q:Exit→Act→World→Prop) (S:World→Prop) (N:List Nat) (fuel:Nat) (listed:Array Bool) (a:Act) (w:World) (rs:List Nat):Prop:=
 ∀ i∈rs,wpOp P ops Q i (fun a' w'=>((S w→S w')∨i∈N)∧wpAnyM P md ops Q S N fuel (listed.setIfInBounds i true) a' w') a w
theorem AllReadyM.nil {fuel:Nat} {listed:Array Bool} {a:Act} {w:World}:AllReadyM P md ops Q S N fuel listed a w []:=fun _ h=>by cases h
theorem AllReadyM.cons {fuel:Nat} {listed:Array Bool} {a:Act} {w:World} {i:Nat} {o:Oper} {rs:List Nat} (ho:ops.toList[i]? = some o)
  (h : ∀ K':Act→World→Prop,Shut (∀ a w',((S w→S w')∨i∈N)→wpAnyM P md ops Q S N fuel (listed.setIfInBounds i true) a w'→K' a w')→if Region.wanted o (yielded ops a.tmps)=true then Oper.wp P o a w K' Q else K' (a.put o.dst undef) w)
  (hs:AllReadyM P md ops Q S N fuel listed a w rs):AllReadyM P md ops Q S N fuel listed a w (i :: rs):=fun j hj=>by
 rcases List.mem_cons.1 hj with rfl | hj
 ·exact wpOp_step (by simpa using ho) (fun K' hK=>h K' (fun a w' hS hW=>hK a w' ⟨hS,hW⟩))
 ·exact hs j hj
theorem wpAnyM_ready {rs:List Nat} {fuel:Nat} {listed:Array Bool} {a:Act} {w:World} (hr:Region.ready md ops listed=rs) (hne:rs≠[])
  (h:AllReadyM P md ops Q S N fuel listed a w rs):wpAnyM P md ops Q S N (fuel+1) listed a w:=
 ⟨fun h0=>absurd (hr ▸ h0) hne,hr ▸ h⟩
theorem wpAnyM_done {listed:Array Bool} {a:Act} {w:World} (hr:Region.ready md ops listed=[]) (h:Q .normal a w) : ∀ fuel,wpAnyM P md ops Q S N fuel listed a w
 | 0=>⟨hr,h⟩
 | _+1=>⟨fun _=>h,by rw [hr];simp⟩
theorem wp_region_late (S:World→Prop) (N:List Nat) {id:Nat} {a:Act} {w:World} (hm:P.follows .mixedOrders=true)
  (h:wpAnyM P .any ops Q S N ops.size (Array.replicate ops.size false) a w.drew):(Code.region id ops true).wp P Q a w:=
 wp_region_any hm (wpAny_of_late _ _ _ _ h)
theorem wM {oi:Oper} {fuel:Nat} {listed:Array Bool} {a:Act} {w:World} (i:Nat) (v:Value) (hv : ∀ w,S w→(execOp a.eval oi).run P w=.ok (.value v) w) (hS:S w)
  (h:wpAnyM P md ops Q S N fuel (listed.setIfInBounds i true) (a.put oi.dst v) w) (hi:ops.toList[i]? = some oi:=by rfl)
  (hb:((Region.ready md ops listed).contains i && (Region.noSelect ops && (Region.free md ops listed i && N.all (fun n=>waitsB md ops n i))))=true:=by as_aux_lemma=>kernel_rfl)
  (hw:Region.wanted oi (yielded ops a.tmps)=true:=by rfl) (hQ : ∀ c a w,Q (.panic c) (a.put oi.dst v) w→Q (.panic c) a w:=by exact fun _ _ _ h=>h):wpAnyM P md ops Q S N (fuel+1) listed a w:=by
 simp only [Bool.and_eq_true] at hb;exact wpAnyM_take hi hb.1 hb.2.1 hb.2.2.1 hb.2.2.2 hQ (.inl ⟨hw,hv⟩) hS h
theorem tM {oi:Oper} {fuel:Nat} {listed:Array Bool} {a:Act} {w:World} {v:Value} (i:Nat) (h:wpAnyM P md ops Q S N fuel (listed.setIfInBounds i true) (a.put oi.dst v) w)
  (hi:ops.toList[i]? = some oi:=by rfl) (hS:S w:=by exact hS) (hv : ∀ w,S w→(execOp a.eval oi).run P w=.ok (.value v) w:=by intro w hSw;have hc:=TK.out w hSw;go_simp;try with_reducible rfl)
  (hb:((Region.ready md ops listed).contains i && (Region.noSelect ops && (Region.free md ops listed i && N.all (fun n=>waitsB md ops n i))))=true:=by as_aux_lemma=>kernel_rfl)
  (hw:Region.wanted oi (yielded ops a.tmps)=true:=by rfl) (hQ : ∀ c a w,Q (.panic c) (a.put oi.dst v) w→Q (.panic c) a w:=by exact fun _ _ _ h=>h):wpAnyM P md ops Q S N (fuel+1) listed a w:=wM i v hv hS h hi hb hw hQ
theorem pM {oi:Oper} {fuel:Nat} {listed:Array Bool} {a:Act} {w:World} {v:Value} (i:Nat) (h:wpAnyM P md ops Q S N fuel (listed.setIfInBounds i true) (a.put oi.dst v) w)
  (hi:ops.toList[i]? = some oi:=by rfl) (hv : ∀ w,True→(execOp a.eval oi).run P w=.ok (.value v) w:=by intro w _;go_simp;try with_reducible rfl)
  (hb:((Region.ready md ops listed).contains i && (Region.noSelect ops && Region.free md ops listed i))=true:=by as_aux_lemma=>kernel_rfl)
  (hw:Region.wanted oi (yielded ops a.tmps)=true:=by rfl) (hQ : ∀ c a w,Q (.panic c) (a.put oi.dst v) w→Q (.panic c) a w:=by exact fun _ _ _ h=>h):wpAnyM P md ops Q S N (fuel+1) listed a w:=by
 simp only [Bool.and_eq_true] at hb;exact wpAnyM_pure hi hb.1 hb.2.1 hb.2.2 hQ (.inl ⟨hw,hv⟩) h
theorem uM {oi:Oper} {fuel:Nat} {listed:Array Bool} {a:Act} {w:World} (i:Nat)
  (h:wpAnyM P md ops Q S N fuel (listed.setIfInBounds i true) (a.put oi.dst undef) w) (hi:ops.toList[i]? = some oi:=by rfl)
  (hb:((Region.ready md ops listed).contains i && (Region.noSelect ops && Region.free md ops listed i))=true:=by as_aux_lemma=>kernel_rfl)
  (hw:Region.wanted oi (yielded ops a.tmps)=false:=by rfl) (hQ : ∀ c a w,Q (.panic c) (a.put oi.dst undef) w→Q (.panic c) a w:=by exact fun _ _ _ h=>h):wpAnyM P md ops Q S N (fuel+1) listed a w:=by
 simp only [Bool.and_eq_true] at hb;exact wpAnyM_pure hi hb.1 hb.2.1 hb.2.2 hQ (.inr ⟨hw,rfl⟩) h
theorem nM {fuel:Nat} {listed:Array Bool} {a:Act} {w:World}:AllReadyM P md ops Q S N fuel listed a w []:=.nil
theorem cM {fuel:Nat} {listed:Array Bool} {a:Act} {w:World} (i:Nat) {o:Oper} {rs:List Nat}
  (h : ∀ K':Act→World→Prop,Shut (∀ a w',((S w→S w')∨i∈N)→wpAnyM P md ops Q S N fuel (listed.setIfInBounds i true) a w'→K' a w')→if Region.wanted o (yielded ops a.tmps)=true then Oper.wp P o a w K' Q else K' (a.put o.dst undef) w)
  (hs:AllReadyM P md ops Q S N fuel listed a w rs) (ho:ops.toList[i]? = some o:=by rfl):AllReadyM P md ops Q S N fuel listed a w (i :: rs):=.cons ho h hs
theorem aM (rs:List Nat) {fuel:Nat} {listed:Array Bool} {a:Act} {w:World} (h:AllReadyM P md ops Q S N fuel listed a w rs) (hr:Region.ready md ops listed=rs:=by as_aux_lemma=>kernel_rfl) (hne:rs≠[]:=by simp) :
  wpAnyM P md ops Q S N (fuel+1) listed a w:=wpAnyM_ready hr hne h
theorem rM {fuel:Nat} {listed:Array Bool} {a:Act} {w:World} (i:Nat) {o:Oper}
  (h : ∀ K':Act→World→Prop,Shut (∀ a w',((S w→S w')∨i∈N)→wpAnyM P md ops Q S N fuel (listed.setIfInBounds i true) a w'→K' a w')→if Region.wanted o (yielded ops a.tmps)=true then Oper.wp P o a w K' Q else K' (a.put o.dst undef) w)
  (ho:ops.toList[i]? = some o:=by rfl) (hr:Region.ready md ops listed=[i]:=by as_aux_lemma=>kernel_rfl):wpAnyM P md ops Q S N (fuel+1) listed a w:=aM [i] (.cons ho h .nil) hr
theorem dM {listed:Array Bool} {a:Act} {w:World} (h:Q .normal a w) (fuel:Nat) (hr:Region.ready md ops listed=[]:=by as_aux_lemma=>kernel_rfl):wpAnyM P md ops Q S N fuel listed a w:=wpAnyM_done hr h fuel
end
end Go.Proofs.YtndfpmboanohcaaGreatDoor
