/- Contract of store.Of at a configuration that may be. -/
import Derived.Test.YtndfpmboanohcaaGreatDoorAppToChs
namespace Go.Proofs.YtndfpmboanohcaaGreatDoor
set_option maxRecDepth 100000
open Go.RowKit Go.Maps SkipPure
def st0 (bs:List Int) (S B:Int):St:=
 { bs:=bs,S:=S,B:=B,f:=1,F:=fun x=>if x=1 then some (1,0,0) else none,n:=1,V:=fun _=>E0,slot:=0,boosted:=0,je:=0,jr:=1,fe:=0,fr:=1,
   L:=fun x=>if x=1 then some (led0 bs.length 1) else none,gone:=fun _=>False }
theorem ints_owned {kd:IntKind} {w:World} {base:Nat} {T:TypeId} {g c:Nat} {xs:List Int} (h:w.ownsRow base T 1 (.slice (some ⟨g,0,none⟩) xs.length c) xs.length (xs.map (Value.int kd))):Ints kd w (some ⟨g,0,none⟩) xs:=fun i hi=>by
 refine ⟨_,rfl,h.cells (g:=g) rfl i _ ?_⟩;rw [List.getElem?_map,List.getElem?_eq_getElem hi];simp [List.getD_eq_getElem?_getD,List.getElem?_eq_getElem hi]
theorem ints_news {kd:IntKind} {w:World} {ad:Addr} {xs:List Int} (h:Ints kd w (some ad) xs) : ∀ j u,(xs.map (Value.int kd))[j]? = some u→w.cell? (ad.add j)=some u:=fun j u hu=>by
 rw [List.getElem?_map] at hu;obtain ⟨x,hx,rfl⟩:=Option.map_eq_some_iff.1 hu;obtain ⟨hj,hx⟩:=List.getElem?_eq_some_iff.1 hx;obtain ⟨a,e,hc⟩:=h j hj;cases e;rw [hc];simp [List.getD_eq_getElem?_getD,List.getElem?_eq_getElem hj,hx]
theorem TreeAt.lts {w:World} {p b n:Nat} {f:Int} {F:Int→Option (Int×Int×Int)} (h:TreeAt w p b n f F):p < w.heap.size∧b < w.heap.size:=⟨Blk.lt (q:=p) h.2.1,h.2.2.lt⟩
theorem LMap.lt {w:World} {ok:Nat→Prop} {b N:Nat} {L:Int→Option Led} (h:LMap w ok b N L):b < w.heap.size:=by
 obtain ⟨_,_,_,h,_⟩:=h;exact h.lt
theorem LMap.one {w:World} {ok:Nat→Prop} {lm N:Nat} {k:Int} {v:Value} {x:Led} {n:Nat} (h:RawMap Tryz.prog 27 w lm n (upd (fun _=>none) k v)) (hl:LedAt w ok N x v) (hn:n=1:=by rfl):LMap w ok lm N (fun r=>if r=k then some x else none):=by
 refine ⟨n,[k],_,h,by simp,by simp [hn],by simp,fun r=>?_⟩;unfold upd;by_cases e:r=k
 ·simp only [if_pos e];exact ⟨by simp,fun y hy=>⟨v,rfl,by cases hy;exact hl⟩⟩
 ·simp only [if_neg e];exact ⟨by simp,by simp⟩
theorem TreeAt.ne {w:World} {p b n:Nat} {f:Int} {F:Int→Option (Int×Int×Int)} (h:TreeAt w p b n f F):p≠b:=by
 intro e;have h1:=h.2.1;obtain ⟨D,⟨es,clock,h2,_⟩,_⟩:=h.2.2;rw [e,h2] at h1;cases h1
theorem mut_ge {I:Ids} {m:Nat} (h:m≤I.p∧m≤I.tp∧m≤I.tb∧m≤I.vb∧m≤I.lm∧m≤I.gm) : ∀ i,Mut I i→m≤i:=fun i hi=>by
 rcases hi with e | e | e | e | e | e <;> rw [e]
 ·exact h.1
 ·exact h.2.1
 ·exact h.2.2.1
 ·exact h.2.2.2.1
 ·exact h.2.2.2.2.1
 ·exact h.2.2.2.2.2
theorem st0_at {w:World} {bs:List Int} {S B:Int} {p tp tb vb lm gm g5 c5 N M base:Nat} {T2:TypeId}
  (hb:Blk w p #[.slice (some ⟨g5,0,none⟩) bs.length c5,.int .i64 S,.int .i64 B,.pointer (some ⟨tp,0,none⟩),.slice (some ⟨vb,0,none⟩) bs.length bs.length,.int .i64 0,.int .u64 0,
    .int .i64 0,.int .u64 1,.int .i64 0,.int .u64 1,.map (some lm),.map (some gm),.slice none 0 0] 78)
  (ho:w.ownsRow base T2 1 (.slice (some ⟨g5,0,none⟩) bs.length c5) bs.length (bs.map (Value.int .u64))) (ht:TreeAt w tp tb 1 1 (fun x=>if x=1 then some (1,0,0) else none)) (hv:VAt w vb bs.length (fun _=>E0))
  (hl:LMap w (fun i=>N≤i∧i < M) lm bs.length (fun r=>if r=1 then some (led0 bs.length 1) else none)) (hg:RawMap Tryz.prog 27 w gm 0 (fun _=>none))
  (hd:[p,tp,tb,vb,lm,gm].Nodup) (hok : ∀ i,N≤i→i < M→i≠p∧i≠tp∧i≠tb∧i≠vb∧i≠lm∧i≠gm) (hap:g5≠p∧g5≠tp∧g5≠tb∧g5≠vb∧g5≠lm∧g5≠gm) :
  StoreAt w ⟨p,tp,tb,vb,lm,gm,some ⟨g5,0,none⟩,c5,.slice none 0 0,fun _=>False⟩ (st0 bs S B):=by
 refine ⟨hb,ints_owned ho,ht,hv,hl.imp (fun i hi hf=>?_),?_,hd,fun ad he hf=>?_,fun i hi=>hi.elim,fun i hi=>hi.elim⟩
 ·have h:=hok i hi.1 hi.2;rcases hf with hf | hf
  ·rcases hf with e | e | e | e | e | e
   ·exact h.1 e
   ·exact h.2.1 e
   ·exact h.2.2.1 e
   ·exact h.2.2.2.1 e
   ·exact h.2.2.2.2.1 e
   ·exact h.2.2.2.2.2 e
  ·exact hf
 ·refine ⟨0,[],?_,List.nodup_nil,rfl,by simp⟩;have e:setF (fun _=>False)=fun _=>none:=by funext r;simp [setF]
  show RawMap _ _ _ _ _ (setF (fun _=>False));rw [e];exact hg
 ·cases he;rcases hf with hf | hf
  ·rcases hf with e | e | e | e | e | e
   ·exact hap.1 e
   ·exact hap.2.1 e
   ·exact hap.2.2.1 e
   ·exact hap.2.2.2.1 e
   ·exact hap.2.2.2.2.1 e
   ·exact hap.2.2.2.2.2 e
  ·exact hf
def xup (X:Nat→Option Nat) (i b:Nat):Nat→Option Nat:=fun j=>if j=i then some b else X j
theorem xup_cases {X:Nat→Option Nat} {i b j c:Nat} (h:xup X i b j=some c):(j=i∧c=b)∨(j≠i∧X j=some c):=by
 unfold xup at h;split at h
 ·rename_i e;exact .inl ⟨e,(Option.some.inj h).symm⟩
 ·rename_i e;exact .inr ⟨e,h⟩
structure SofI (w:World) (q q4 g5 c5 base:Nat) (T2:TypeId) (bs:List Int) (S B:Int) (X:Nat→Option Nat) (l:Option Value) (d:Bool) (wl:World):Prop where
 s:Blk wl q #[.slice (some ⟨g5,0,none⟩) bs.length c5,.int .i64 S,.int .i64 B] 36∧Blk wl q4 #[.int .i64 0,.int .u64 1] 61
 o:wl.ownsRow base T2 1 (.slice (some ⟨g5,0,none⟩) bs.length c5) bs.length (bs.map (Value.int .u64))
 g:w.grownBy wl none
 lt:w.heap.size≤q∧q < g5∧q4 < g5∧g5 < wl.heap.size∧0 < bs.length∧bs.length≤4096
 nd : ∀ i j b,X i=some b→X j=some b→i=j
 al : ∀ i b,X i=some b→g5 < b∧b < wl.heap.size
 t : ∀ x y,X 0=some x→X 1=some y→TreeAt wl x y 1 1 (fun x=>if x=1 then some (1,0,0) else none)
 v : ∀ x,X 2=some x→VAt wl x bs.length (fun _=>E0)
 m : ∀ x,X 3=some x→d=false→RawMap Tryz.prog 27 wl x 0 (fun _=>none)
 k : ∀ x,X 4=some x→RawMap Tryz.prog 27 wl x 0 (fun _=>none)
 e : ∀ x,l=some x→∃ N M,g5 < N∧M≤wl.heap.size∧(∀ i b,X i=some b→b < N∨M≤b)∧LedAt wl (fun i=>N≤i∧i < M) bs.length (led0 bs.length 1) x
 f:d=true→∀ x,X 3=some x→∃ N M,g5 < N∧M≤wl.heap.size∧(∀ i b,X i=some b→b < N∨M≤b)∧LMap wl (fun i=>N≤i∧i < M) x bs.length (fun r=>if r=1 then some (led0 bs.length 1) else none)
section
variable {w:World} {q q4 g5 c5 base:Nat} {T2:TypeId} {bs:List Int} {S B:Int} {X:Nat→Option Nat} {l:Option Value} {d:Bool} {wl:World}
theorem SofI.put (h:SofI w q q4 g5 c5 base T2 bs S B X l d wl) {wl':World} {Y:Nat→Option Nat} (hg:wl.grownBy wl' none) (hY : ∀ j c,Y j=some c→X j=some c∨wl.heap.size≤c∧c < wl'.heap.size)
  (hn : ∀ i j b,Y i=some b→Y j=some b→wl.heap.size≤b→i=j) (hT : ∀ x y,Y 0=some x→Y 1=some y→X 0=some x∧X 1=some y∨TreeAt wl' x y 1 1 (fun x=>if x=1 then some (1,0,0) else none))
  (hV : ∀ x,Y 2=some x→X 2=some x∨VAt wl' x bs.length (fun _=>E0)) (hM : ∀ x,Y 3=some x→X 3=some x∨d=false∧RawMap Tryz.prog 27 wl' x 0 (fun _=>none))
  (hK : ∀ x,Y 4=some x→X 4=some x∨RawMap Tryz.prog 27 wl' x 0 (fun _=>none)):SofI w q q4 g5 c5 base T2 bs S B Y l d wl':=by
 have hs:=hg.size;have hc:=Chg.of (S:=fun _=>False) hg;obtain ⟨l1,l2,l4,l5,l6⟩:=h.lt;have hY2 : ∀ j c,Y j=some c→X j=some c∨wl.heap.size≤c:=fun j c e=>(hY j c e).imp id And.left;refine ⟨⟨h.s.1.g hg,h.s.2.g hg⟩,h.o.kept hg (.inr (by simp [Value.ownBlock])),g2 h.g hg,⟨l1,l2,l4,by omega,l6⟩,fun a c z ha hc=>?_,fun a z ha=>?_,fun x y hx hy=>?_,fun x hx=>(hV x hx).elim (fun e=>hc.votes (h.v _ e) id) id,
  fun x hx hd=>(hM x hx).elim (fun e=>hc.raw (h.m _ e hd) id) And.right,fun x hx=>(hK x hx).elim (fun e=>hc.raw (h.k _ e) id) id,fun x hx=>?_,fun hd x hx=>?_⟩
 ·rcases hY2 _ _ ha with e | e
  ·rcases hY2 _ _ hc with e2 | e2
   ·exact h.nd _ _ _ e e2
   ·exact hn _ _ _ ha hc e2
  ·exact hn _ _ _ ha hc e
 ·rcases hY _ _ ha with e | e
  ·have:=h.al _ _ e;omega
  ·omega
 ·rcases hT x y hx hy with ⟨e1,e2⟩ | e
  ·exact hc.tree (h.t _ _ e1 e2) id id
  ·exact e
 ·obtain ⟨N,M,a1,a2,a3,a4⟩:=h.e x hx;exact ⟨N,M,a1,by omega,fun j z hz=>(hY2 _ _ hz).elim (a3 j z) (fun e=>.inr (by omega)),a4.g hg⟩
 ·rcases hM x hx with e | e
  ·obtain ⟨N,M,a1,a2,a3,a4⟩:=h.f hd x e;exact ⟨N,M,a1,by omega,fun j z hz=>(hY2 _ _ hz).elim (a3 j z) (fun e=>.inr (by omega)),LMap.g a4 hg⟩
  ·rw [hd] at e;cases e.1
theorem SofI.add (h:SofI w q q4 g5 c5 base T2 bs S B X l d wl) {wl':World} {i b:Nat} (hg:wl.grownBy wl' none) (hb:wl.heap.size≤b) (hb2:b < wl'.heap.size) (hi:1 < i) (hV:i=2→VAt wl' b bs.length (fun _=>E0))
  (hM:i=3→d=false∧RawMap Tryz.prog 27 wl' b 0 (fun _=>none)) (hK:i=4→RawMap Tryz.prog 27 wl' b 0 (fun _=>none)):SofI w q q4 g5 c5 base T2 bs S B (xup X i b) l d wl':=by
 have hx : ∀ j c,xup X i b j=some c→(j=i∧c=b)∨X j=some c:=fun j c e=>(xup_cases e).imp id And.right;have ho : ∀ j c,X j=some c→c < wl.heap.size:=fun j c e=>(h.al j c e).2;refine h.put hg (fun j c e=>?_) (fun i' j c e1 e2 e3=>?_) (fun x y e1 e2=>?_) (fun x e=>?_) (fun x e=>?_) (fun x e=>?_)
 ·rcases hx _ _ e with ⟨_,rfl⟩ | e
  ·exact .inr ⟨hb,hb2⟩
  ·exact .inl e
 ·rcases hx _ _ e1 with ⟨rfl,_⟩ | e
  ·rcases hx _ _ e2 with ⟨rfl,_⟩ | e
   ·rfl
   ·have:=ho _ _ e;omega
  ·have:=ho _ _ e;omega
 ·rcases hx _ _ e1 with ⟨e,_⟩ | e1
  ·omega
  ·rcases hx _ _ e2 with ⟨e,_⟩ | e2
   ·omega
   ·exact .inl ⟨e1,e2⟩
 ·rcases hx _ _ e with ⟨e1,rfl⟩ | e1
  ·exact .inr (hV e1.symm)
  ·exact .inl e1
 ·rcases hx _ _ e with ⟨e1,rfl⟩ | e1
  ·exact .inr (hM e1.symm)
  ·exact .inl e1
 ·rcases hx _ _ e with ⟨e1,rfl⟩ | e1
  ·exact .inr (hK e1.symm)
  ·exact .inl e1
theorem SofI.tof (h:SofI w q q4 g5 c5 base T2 bs S B X l d wl) :
  Calls Tryz.prog 28 #[.int .u64 1,.int .i64 0] wl fun e w'=>∃ p b,e=.returned (.pointer (some ⟨p,0,none⟩))∧SofI w q q4 g5 c5 base T2 bs S B (xup (xup X 0 p) 1 b) l d w':=
 (tof_calls _ (by unfold inU;omega)).mono (by
   rintro e w' ⟨p,b,rfl,ht,hp,hb,hg⟩;obtain ⟨l1,l2⟩:=ht.lts;have hne:=ht.ne;have hx : ∀ j c,xup (xup X 0 p) 1 b j=some c→(j=1∧c=b)∨(j=0∧c=p)∨(1 < j∧X j=some c):=fun j c e=>by
    rcases xup_cases e with e | ⟨e1,e⟩
    ·exact .inl e
    ·rcases xup_cases e with e | ⟨e2,e⟩
     ·exact .inr (.inl e)
     ·exact .inr (.inr ⟨by omega,e⟩)
   have hu : ∀ j c,xup (xup X 0 p) 1 b j=some c→1 < j→X j=some c:=fun j c e h=>by
    rcases hx _ _ e with e | e | e
    ·omega
    ·omega
    ·exact e.2
   have ho : ∀ j c,X j=some c→c < wl.heap.size:=fun j c e=>(h.al j c e).2;refine ⟨p,b,rfl,h.put hg (fun j c e=>?_) (fun i j c e1 e2 e3=>?_) (fun x y e1 e2=>?_) (fun x e=>.inl (hu _ _ e (by decide))) (fun x e=>.inl (hu _ _ e (by decide))) (fun x e=>.inl (hu _ _ e (by decide)))⟩
   ·rcases hx _ _ e with ⟨_,rfl⟩ | ⟨_,rfl⟩ | e
    ·exact .inr ⟨hb,l2⟩
    ·exact .inr ⟨hp,l1⟩
    ·exact .inl e.2
   ·rcases hx _ _ e1 with ⟨a,b⟩ | ⟨a,b⟩ | ⟨_,e⟩
    ·rcases hx _ _ e2 with ⟨a2,b2⟩ | ⟨a2,b2⟩ | ⟨_,e⟩
     ·omega
     ·omega
     ·have:=ho _ _ e;omega
    ·rcases hx _ _ e2 with ⟨a2,b2⟩ | ⟨a2,b2⟩ | ⟨_,e⟩
     ·omega
     ·omega
     ·have:=ho _ _ e;omega
    ·have:=ho _ _ e;omega
   ·rcases hx _ _ e1 with ⟨a,_⟩ | ⟨_,rfl⟩ | ⟨a,_⟩
    ·cases a
    ·rcases hx _ _ e2 with ⟨_,rfl⟩ | ⟨a,_⟩ | ⟨a,_⟩
     ·exact .inr ht
     ·cases a
     ·omega
    ·omega)
theorem SofI.vof (h:SofI w q q4 g5 c5 base T2 bs S B X l d wl) :
  Calls Tryz.prog 29 #[.int .i64 (bs.length:Int)] wl fun e w'=>∃ g,e=.returned (.slice (some ⟨g,0,none⟩) bs.length bs.length)∧SofI w q q4 g5 c5 base T2 bs S B (xup X 2 g) l d w':=
 (vof_calls _ _ h.lt.2.2.2.2.2).mono (by
   rintro e w' ⟨g,rfl,hv,hb,hg⟩;exact ⟨g,rfl,h.add hg hb hv.lt (by decide) (fun _=>hv) (fun e=>by cases e) (fun e=>by cases e)⟩)
theorem SofI.mk' (h:SofI w q q4 g5 c5 base T2 bs S B X l d wl) (i:Nat) (hi:i=3∧d=false∨i=4) : ∃ b W,wl.heap.size=b∧wl.alloc (Obj.map #[] 0)=W∧SofI w q q4 g5 c5 base T2 bs S B (xup X i b) l d W:=
 ⟨_,_,rfl,rfl,h.add (World.grownBy_alloc _ _ none) (Nat.le_refl _) (by simp) (by omega) (fun e=>by omega) (fun e=>⟨by rcases hi with h | h;exact h.2;omega,RawMap.made _ _ _⟩) (fun _=>RawMap.made _ _ _)⟩
theorem SofI.opn (h:SofI w q q4 g5 c5 base T2 bs S B X l d wl) :
  Calls Tryz.prog 30 #[cfgV (some ⟨g5,0,none⟩) bs.length c5 S B,.int .u64 1] wl fun e w'=>∃ v,e=.returned v∧SofI w q q4 g5 c5 base T2 bs S B X (some v) d w':=
 (open_calls h.lt.2.2.2.2.2 1).mono (by
   rintro e w' ⟨v,rfl,hl,hg⟩;have hs:=hg.size;have hc:=Chg.of (S:=fun _=>False) hg;obtain ⟨l1,l2,l4,l5,l6,l7⟩:=h.lt;refine ⟨v,rfl,⟨h.s.1.g hg,h.s.2.g hg⟩,h.o.kept hg (.inr (by simp [Value.ownBlock])),g2 h.g hg,⟨l1,l2,l4,by omega,l6,l7⟩,h.nd,fun a z ha=>?_,fun x y hx hy=>hc.tree (h.t _ _ hx hy) id id,fun x hx=>hc.votes (h.v _ hx) id,fun x hx hd=>hc.raw (h.m _ hx hd) id,
    fun x hx=>hc.raw (h.k _ hx) id,fun x hx=>?_,fun hd x hx=>?_⟩
   ·have:=h.al _ _ ha;omega
   ·cases hx;exact ⟨wl.heap.size,w'.heap.size,l5,Nat.le_refl _,fun i b hb=>.inl (h.al _ _ hb).2,hl.here l6⟩
   ·obtain ⟨N,M,a1,a2,a3,a4⟩:=h.f hd x hx;exact ⟨N,M,a1,by omega,a3,LMap.g a4 hg⟩)
theorem SofI.sto {v:Value} {b:Nat} (h:SofI w q q4 g5 c5 base T2 bs S B X (some v) false wl) (hb:X 3=some b) {wl':World} {n:Nat} (hn:n=1) (hm:RawMap Tryz.prog 27 wl' b n (upd (fun _=>none) 1 v)) (hg:wl.grownBy wl' (some b)) :
  SofI w q q4 g5 c5 base T2 bs S B X none true wl':=by
 have hs:=hg.size;have hc:=Chg.one (S:=fun i=>i=b) hg rfl;obtain ⟨l1,l2,l4,l5,l6⟩:=h.lt;have hb2:=h.al _ _ hb;have hne : ∀ i z,X i=some z→i≠3→¬ z=b:=fun i z hz hi e=>hi (h.nd i 3 b (e ▸ hz) hb);refine ⟨⟨h.s.1.kept hg (by simp;omega),h.s.2.kept hg (by simp;omega)⟩,h.o.kept hg (.inr (by simp [Value.ownBlock];omega)),gnew h.g hg (by omega),⟨l1,l2,l4,by omega,l6⟩,h.nd,fun a z ha=>?_,fun x y hx hy=>hc.tree (h.t _ _ hx hy) (hne _ _ hx (by decide)) (hne _ _ hy (by decide)),
  fun x hx=>hc.votes (h.v _ hx) (hne _ _ hx (by decide)),fun _ _ h=>(by cases h),fun x hx=>hc.raw (h.k _ hx) (hne _ _ hx (by decide)),fun _ h=>(by cases h),fun _ x hx=>?_⟩
 ·have:=h.al _ _ ha;omega
 ·obtain ⟨N,M,a1,a2,a3,a4⟩:=h.e v rfl;rw [hb] at hx;cases hx;exact ⟨N,M,a1,by omega,a3,LMap.one hm (a4.chg hc (fun i hi e=>by have:=a3 _ _ hb;omega)) hn⟩
theorem SofI.fin {p tp tb vb lm gm:Nat} (h:SofI w q q4 g5 c5 base T2 bs S B X l true wl) (h0:X 0=some tp) (h1:X 1=some tb) (h2:X 2=some vb) (h3:X 3=some lm) (h4:X 4=some gm) {wl':World} (hg:wl.grownBy wl' none) (hp:p=wl.heap.size)
  (hb:Blk wl' p #[.slice (some ⟨g5,0,none⟩) bs.length c5,.int .i64 S,.int .i64 B,.pointer (some ⟨tp,0,none⟩),.slice (some ⟨vb,0,none⟩) bs.length bs.length,.int .i64 0,.int .u64 0,
    .int .i64 0,.int .u64 1,.int .i64 0,.int .u64 1,.map (some lm),.map (some gm),.slice none 0 0] 78) :
  ∃ I:Ids,I.p=p∧StoreAt wl' I (st0 bs S B)∧I.ch=.slice none 0 0∧I.ex=(fun _=>False)∧(∀ i,Mut I i→w.heap.size≤i)∧w.grownBy wl' none:=by
 have hc:=Chg.of (S:=fun _=>False) hg;obtain ⟨N,M,a1,a2,a3,a4⟩:=h.f rfl _ h3;have k0:=h.al _ _ h0;have k1:=h.al _ _ h1;have k2:=h.al _ _ h2;have k3:=h.al _ _ h3;have k4:=h.al _ _ h4;have m0:=a3 _ _ h0;have m1:=a3 _ _ h1;have m2:=a3 _ _ h2;have m3:=a3 _ _ h3;have m4:=a3 _ _ h4;obtain ⟨l1,l2,l4,l5,l6⟩:=h.lt;have n : ∀ {i j x y},X i=some x→X j=some y→i≠j→x≠y:=fun hx hy hi e=>hi (h.nd _ _ _ hx (e ▸ hy));have n01:=n h0 h1 (by decide);have n02:=n h0 h2 (by decide);have n03:=n h0 h3 (by decide);have n04:=n h0 h4 (by decide);have n12:=n h1 h2 (by decide);have n13:=n h1 h3 (by decide);have n14:=n h1 h4 (by decide);have n23:=n h2 h3 (by decide);have n24:=n h2 h4 (by decide);have n34:=n h3 h4 (by decide);exact ⟨⟨p,tp,tb,vb,lm,gm,some ⟨g5,0,none⟩,c5,.slice none 0 0,fun _=>False⟩,rfl,st0_at hb (h.o.kept hg (.inr (by simp [Value.ownBlock]))) (hc.tree (h.t _ _ h0 h1) id id) (hc.votes (h.v _ h2) id) (LMap.g a4 hg) (hc.raw (h.k _ h4) id)
  (by simp;omega) (fun i h1 h2=>by omega) (by omega),rfl,rfl,mut_ge (by simp only;omega),g2 h.g hg⟩
end
section
variable {w:World} {bs:List Int} {S B:Int} {ad:Option Addr} {c:Nat}
set_option maxHeartbeats 8000000 in
theorem sof_calls (hb:Ints .u64 w ad bs) (hm:MayBe bs S B) :
  Calls Tryz.prog 18 #[cfgV ad bs.length c S B] w fun e w'=>∃ I,e=.returned (.tuple #[.pointer (some ⟨I.p,0,none⟩),.nilIface])∧StoreAt w' I (st0 bs S B)∧I.ch=.slice none 0 0∧I.ex=(fun _=>False)∧(∀ i,Mut I i→w.heap.size≤i)∧w.grownBy w' none:=by
 have HB:=lh hb;have HMB:=lh hm;have hl1:=hm.l1;have hl2:=hm.l2;clear hb hm;have hmm:=@run_makeMap Tryz.prog;have HMM:=lh hmm;clear hmm;unfold cfgV;go_enter Tryz.func18,Tryz.ntmps18
 go_upto_region 1 with (fail)
 refine nmC1 ?_;intro W b0 hz hg;obtain ⟨q,hq_q⟩ : ∃ q,q=w.heap.size:=⟨_,rfl⟩;rw [← hq_q] at b0 hz ⊢;have HQ_q:=lh hq_q;clear hq_q;have HQ:=lh b0;have HG:=lh hg;clear b0 hg;replace HB:=lh (Ints.kept HB.out HG.out);obtain ⟨c0,c1,c2⟩:=HQ.out.c3;go_wp2_with fail
 refine (may_calls HB.out rfl HMB.out).mono ?_;rintro e w1 ⟨rfl,hg⟩;replace HB:=lh (Ints.kept HB.out hg);replace HQ:=lh (HQ.out.g hg);replace HG:=lh (g2 HG.out hg);clear hg c0 c1 c2;go_upto_region 3 with (fail)
 go_upto_region 4 with (fail)
 refine nmC1 ?_;intro w2 b4 hz hg;have hql:=HQ.out.lt;obtain ⟨q4,hq_q4⟩ : ∃ q,q=w1.heap.size:=⟨_,rfl⟩;rw [← hq_q4] at b4 hz hql ⊢;have HQ_q4:=lh hq_q4;clear hq_q4;replace HB:=lh (Ints.kept HB.out hg);replace HQ:=lh (HQ.out.g hg);replace HG:=lh (g2 HG.out hg);have HP:=lh b4;clear b4;clear hg hz;obtain ⟨a,rfl⟩ : ∃ a,ad=some a:=by
  obtain ⟨a,h,_⟩:=HB.out 0 hl1;exact ⟨a,h⟩
 obtain ⟨i0,hi0⟩:=elem_u64;have HI:=lh hi0;have hw2:=HG.out.size;clear hi0;obtain ⟨c0,c1,c2⟩:=HQ.out.c3;obtain ⟨f0,f1,f2⟩:=HQ.out.f3;go_wp2_with (at_builtin;refine wpList_append_lies _ rfl _ _ 34 rfl w.heap.size 27 i0 (.int .u64 0) 1 8 Tryz.underlying34 HI.out.1 HI.out.2.1 HI.out.2.2.1 HI.out.2.2.2 rfl (by decide) (.slice none 0 0) 0 [] rfl (World.ownsRow_nil _ _ _ _) a bs.length c (bs.map (Value.int .u64)) rfl (by simp) (ints_news HB.out) (by simp [Value.oneCell']) (by omega) (by unfold maxLen;omega) (by omega) hw2 _ rfl ?_;intro g5 c5 w5 h5 hg5 hat5 hlt5;have hgg:World.grownBy w2 w5 none:=hg5;have c0:=(HQ.out.g hgg).at 0;have f0:=(HQ.out.g hgg).fr 0)
 have hs:=(HQ.out.g hgg).set 0 (.slice (some ⟨g5,0,none⟩) bs.length c5);simp only [List.setIfInBounds_toArray,List.set_cons_zero] at hs;have hgs:=gset w5 q 0 (.slice (some ⟨g5,0,none⟩) bs.length c5);have hg5q:w2.heap.size=g5:=by
  rcases hat5 with h | h
  ·cases h
  ·exact h.symm
 have hq2:=HQ.out.lt;have hp2:=HP.out.lt;have hqw:=Nat.le_of_eq HQ_q.out.symm;rw [Nat.zero_add,List.nil_append] at h5;have how:=h5.kept hgs (.inr (by simp [Value.ownBlock];omega));have hpp:=(HP.out.g hgg).kept hgs (by simp;omega);have hgr:=gnew (g2 HG.out hgg) hgs hqw;clear h5 hat5 hgg c0 c1 c2 f0 f1 f2 HQ HP HG HB;generalize w5.setCell ⟨q,0,none⟩ (.slice (some ⟨g5,0,none⟩) bs.length c5)=w6 at hs hgs how hpp hgr ⊢;have hlt6:g5 < w6.heap.size:=Nat.lt_of_lt_of_le hlt5 hgs.size;clear hgs;have HQ:=lh hs;have HOW:=lh how;have HP:=lh hpp;have HG:=lh hgr;clear hs how hpp hgr;have TK:=lh fun w (hSw:(fun wr=>Blk wr q #[.slice (some ⟨g5,0,none⟩) bs.length c5,.int .i64 S,.int .i64 B] 36∧Blk wr q4 #[.int .i64 0,.int .u64 1] 61) w)=>And.intro hSw.1.c3 <| hSw.2.c2
 refine wp_region_late (fun wr=>Blk wr q #[.slice (some ⟨g5,0,none⟩) bs.length c5,.int .i64 S,.int .i64 B] 36∧Blk wr q4 #[.int .i64 0,.int .u64 1] 61) [] (by as_aux_lemma=>kernel_rfl) ?_;have hgd:=gdrew (gR w6 none);have hI:=SofI.mk (S:=S) (B:=B) (X:=fun _=>none) (l:=none) (d:=false) ⟨HQ.out.g hgd,HP.out.g hgd⟩ (HOW.out.kept hgd (.inr (by simp [Value.ownBlock]))) (g2 HG.out hgd) ⟨hqw,by omega,by omega,hlt6,by omega,hl2⟩ (fun _ _ _ h=>by cases h) (fun _ _ h=>by cases h) (fun _ _ h=>by cases h) (fun _ h=>by cases h) (fun _ h=>by cases h) (fun _ h=>by cases h) (fun _ h=>by cases h) (fun h=>by cases h);have HI:=lh hI;have hS:=hI.s;clear hgd HQ HP HOW HG hI;generalize w6.drew=wl at HI hS ⊢;refine pM 2 ?_;simp only [zz];refine tM 0 ?_;simp only [zz];refine tM 3 ?_;simp only [zz];refine pM 4 ?_;simp only [zz];refine tM 6 ?_;simp only [zz];refine tM 7 ?_;simp only [zz];refine tM 9 ?_;simp only [zz];refine aM [1,8,13] (cM 1 (fun K hK=>?_) (cM 8 (fun K hK=>?_) (cM 13 (fun K hK=>?_) nM)))
 ·skip;go_simp;refine HI.out.tof.mono ?_;rintro e wl ⟨tp,tb,rfl,hI⟩;replace HI:=lh hI;have hS2:=hI.s;clear hI;refine hK.out _ _ (.inl (fun _=>hS2)) ?_;replace hS:=hS2;clear hK K hS2;try simp only [zz]
  refine aM [5,8,13] (cM 5 (fun K hK=>?_) (cM 8 (fun K hK=>?_) (cM 13 (fun K hK=>?_) nM)))
  ·skip;go_simp;refine HI.out.vof.mono ?_;rintro e wl ⟨vb,rfl,hI⟩;replace HI:=lh hI;have hS2:=hI.s;clear hI;refine hK.out _ _ (.inl (fun _=>hS2)) ?_;replace hS:=hS2;clear hK K hS2;try simp only [zz]
   refine aM [8,10,13] (cM 8 (fun K hK=>?_) (cM 10 (fun K hK=>?_) (cM 13 (fun K hK=>?_) nM)))
   ·skip;have hmm:=HMM.out;go_simp;clear hmm;obtain ⟨lm,wl,e1,e2,hI⟩:=HI.out.mk' 3 (.inl ⟨rfl,rfl⟩);rw [e1,e2];replace HI:=lh hI;have hS2:=hI.s;clear hI e1 e2;refine hK.out _ _ (.inl (fun _=>hS2)) ?_;replace hS:=hS2;clear hK K hS2;try simp only [zz]
    refine aM [10,13] (cM 10 (fun K hK=>?_) (cM 13 (fun K hK=>?_) nM))
    ·skip;go_simp;refine HI.out.opn.mono ?_;rintro e wl ⟨v,rfl,hI⟩;replace HI:=lh hI;have hS2:=hI.s;clear hI;refine hK.out _ _ (.inl (fun _=>hS2)) ?_;replace hS:=hS2;clear hK K hS2;try simp only [zz]
     refine aM [11,13] (cM 11 (fun K hK=>?_) (cM 13 (fun K hK=>?_) nM))
     ·skip;refine wp_store_any (HI.out.m _ rfl rfl) _ _ _ 74 (.inr rfl) Tryz.underlying27 Tryz.underlying74 (by unfold maxLen;omega) (k:=1) (by unfold inU;omega) v rfl rfl rfl ?_;intro wl hm hg;have hI:=HI.out.sto rfl rfl hm hg;replace HI:=lh hI;have hS2:=hI.s;clear hI hm hg;refine hK.out _ _ (.inl (fun _=>hS2)) ?_;replace hS:=hS2;clear hK K hS2;refine pM 12 ?_;simp only [zz];refine rM 13 fun K hK=>?_;have hmm:=HMM.out;go_simp;clear hmm;obtain ⟨gm,wl,e1,e2,hI⟩:=HI.out.mk' 4 (.inr rfl);rw [e1,e2];replace HI:=lh hI;have hS2:=hI.s;clear hI e1 e2;refine hK.out _ _ (.inl (fun _=>hS2)) ?_;replace hS:=hS2;clear hK K hS2;try simp only [zz]
      refine pM 14 ?_;simp only [zz];refine rM 15 fun K hK=>?_;go_simp;obtain ⟨p,hp⟩ : ∃ p,p=wl.heap.size:=⟨_,rfl⟩;rw [← hp];refine nmA1 ?_;intro wl hb hg;rw [← hp] at hb;have hS2:(fun wr=>_) wl:=And.intro (HI.out.s.1.g hg) (HI.out.s.2.g hg);obtain ⟨I,e1,h1⟩:=HI.out.fin rfl rfl rfl rfl rfl hg hp hb;subst e1;have HE:=lh h1;clear hg hb hp h1 HI;refine hK.out _ _ (.inl (fun _=>hS2)) ?_;replace hS:=hS2;clear hK K hS2;try simp only [zz]
      refine pM 16 ?_;simp only [zz];refine pM 17 ?_;simp only [zz];refine dM ?_ _;go_wp2_with fail
      go_ret2;exact ⟨I,rfl,HE.out⟩
     ·skip;have hmm:=HMM.out;go_simp;clear hmm;obtain ⟨gm,wl,e1,e2,hI⟩:=HI.out.mk' 4 (.inr rfl);rw [e1,e2];replace HI:=lh hI;have hS2:=hI.s;clear hI e1 e2;refine hK.out _ _ (.inl (fun _=>hS2)) ?_;replace hS:=hS2;clear hK K hS2;try simp only [zz]
      refine rM 11 fun K hK=>?_;refine wp_store_any (HI.out.m _ rfl rfl) _ _ _ 74 (.inr rfl) Tryz.underlying27 Tryz.underlying74 (by unfold maxLen;omega) (k:=1) (by unfold inU;omega) v rfl rfl rfl ?_;intro wl hm hg;have hI:=HI.out.sto rfl rfl hm hg;replace HI:=lh hI;have hS2:=hI.s;clear hI hm hg;refine hK.out _ _ (.inl (fun _=>hS2)) ?_;replace hS:=hS2;clear hK K hS2;refine pM 12 ?_;simp only [zz];refine pM 14 ?_;simp only [zz];refine rM 15 fun K hK=>?_;go_simp;obtain ⟨p,hp⟩ : ∃ p,p=wl.heap.size:=⟨_,rfl⟩;rw [← hp];refine nmA1 ?_;intro wl hb hg;rw [← hp] at hb;have hS2:(fun wr=>_) wl:=And.intro (HI.out.s.1.g hg) (HI.out.s.2.g hg);obtain ⟨I,e1,h1⟩:=HI.out.fin rfl rfl rfl rfl rfl hg hp hb;subst e1;have HE:=lh h1;clear hg hb hp h1 HI;refine hK.out _ _ (.inl (fun _=>hS2)) ?_;replace hS:=hS2;clear hK K hS2;try simp only [zz]
      refine pM 16 ?_;simp only [zz];refine pM 17 ?_;simp only [zz];refine dM ?_ _;go_wp2_with fail
      go_ret2;exact ⟨I,rfl,HE.out⟩
    ·skip;have hmm:=HMM.out;go_simp;clear hmm;obtain ⟨gm,wl,e1,e2,hI⟩:=HI.out.mk' 4 (.inr rfl);rw [e1,e2];replace HI:=lh hI;have hS2:=hI.s;clear hI e1 e2;refine hK.out _ _ (.inl (fun _=>hS2)) ?_;replace hS:=hS2;clear hK K hS2;try simp only [zz]
     refine rM 10 fun K hK=>?_;go_simp;refine HI.out.opn.mono ?_;rintro e wl ⟨v,rfl,hI⟩;replace HI:=lh hI;have hS2:=hI.s;clear hI;refine hK.out _ _ (.inl (fun _=>hS2)) ?_;replace hS:=hS2;clear hK K hS2;try simp only [zz]
     refine rM 11 fun K hK=>?_;refine wp_store_any (HI.out.m _ rfl rfl) _ _ _ 74 (.inr rfl) Tryz.underlying27 Tryz.underlying74 (by unfold maxLen;omega) (k:=1) (by unfold inU;omega) v rfl rfl rfl ?_;intro wl hm hg;have hI:=HI.out.sto rfl rfl hm hg;replace HI:=lh hI;have hS2:=hI.s;clear hI hm hg;refine hK.out _ _ (.inl (fun _=>hS2)) ?_;replace hS:=hS2;clear hK K hS2;refine pM 12 ?_;simp only [zz];refine pM 14 ?_;simp only [zz];refine rM 15 fun K hK=>?_;go_simp;obtain ⟨p,hp⟩ : ∃ p,p=wl.heap.size:=⟨_,rfl⟩;rw [← hp];refine nmA1 ?_;intro wl hb hg;rw [← hp] at hb;have hS2:(fun wr=>_) wl:=And.intro (HI.out.s.1.g hg) (HI.out.s.2.g hg);obtain ⟨I,e1,h1⟩:=HI.out.fin rfl rfl rfl rfl rfl hg hp hb;subst e1;have HE:=lh h1;clear hg hb hp h1 HI;refine hK.out _ _ (.inl (fun _=>hS2)) ?_;replace hS:=hS2;clear hK K hS2;try simp only [zz]
     refine pM 16 ?_;simp only [zz];refine pM 17 ?_;simp only [zz];refine dM ?_ _;go_wp2_with fail
     go_ret2;exact ⟨I,rfl,HE.out⟩
   ·skip;go_simp;refine HI.out.opn.mono ?_;rintro e wl ⟨v,rfl,hI⟩;replace HI:=lh hI;have hS2:=hI.s;clear hI;refine hK.out _ _ (.inl (fun _=>hS2)) ?_;replace hS:=hS2;clear hK K hS2;try simp only [zz]
    refine aM [8,13] (cM 8 (fun K hK=>?_) (cM 13 (fun K hK=>?_) nM))
    ·skip;have hmm:=HMM.out;go_simp;clear hmm;obtain ⟨lm,wl,e1,e2,hI⟩:=HI.out.mk' 3 (.inl ⟨rfl,rfl⟩);rw [e1,e2];replace HI:=lh hI;have hS2:=hI.s;clear hI e1 e2;refine hK.out _ _ (.inl (fun _=>hS2)) ?_;replace hS:=hS2;clear hK K hS2;try simp only [zz]
     refine aM [11,13] (cM 11 (fun K hK=>?_) (cM 13 (fun K hK=>?_) nM))
     ·skip;refine wp_store_any (HI.out.m _ rfl rfl) _ _ _ 74 (.inr rfl) Tryz.underlying27 Tryz.underlying74 (by unfold maxLen;omega) (k:=1) (by unfold inU;omega) v rfl rfl rfl ?_;intro wl hm hg;have hI:=HI.out.sto rfl rfl hm hg;replace HI:=lh hI;have hS2:=hI.s;clear hI hm hg;refine hK.out _ _ (.inl (fun _=>hS2)) ?_;replace hS:=hS2;clear hK K hS2;refine pM 12 ?_;simp only [zz];refine rM 13 fun K hK=>?_;have hmm:=HMM.out;go_simp;clear hmm;obtain ⟨gm,wl,e1,e2,hI⟩:=HI.out.mk' 4 (.inr rfl);rw [e1,e2];replace HI:=lh hI;have hS2:=hI.s;clear hI e1 e2;refine hK.out _ _ (.inl (fun _=>hS2)) ?_;replace hS:=hS2;clear hK K hS2;try simp only [zz]
      refine pM 14 ?_;simp only [zz];refine rM 15 fun K hK=>?_;go_simp;obtain ⟨p,hp⟩ : ∃ p,p=wl.heap.size:=⟨_,rfl⟩;rw [← hp];refine nmA1 ?_;intro wl hb hg;rw [← hp] at hb;have hS2:(fun wr=>_) wl:=And.intro (HI.out.s.1.g hg) (HI.out.s.2.g hg);obtain ⟨I,e1,h1⟩:=HI.out.fin rfl rfl rfl rfl rfl hg hp hb;subst e1;have HE:=lh h1;clear hg hb hp h1 HI;refine hK.out _ _ (.inl (fun _=>hS2)) ?_;replace hS:=hS2;clear hK K hS2;try simp only [zz]
      refine pM 16 ?_;simp only [zz];refine pM 17 ?_;simp only [zz];refine dM ?_ _;go_wp2_with fail
      go_ret2;exact ⟨I,rfl,HE.out⟩
     ·skip;have hmm:=HMM.out;go_simp;clear hmm;obtain ⟨gm,wl,e1,e2,hI⟩:=HI.out.mk' 4 (.inr rfl);rw [e1,e2];replace HI:=lh hI;have hS2:=hI.s;clear hI e1 e2;refine hK.out _ _ (.inl (fun _=>hS2)) ?_;replace hS:=hS2;clear hK K hS2;try simp only [zz]
      refine rM 11 fun K hK=>?_;refine wp_store_any (HI.out.m _ rfl rfl) _ _ _ 74 (.inr rfl) Tryz.underlying27 Tryz.underlying74 (by unfold maxLen;omega) (k:=1) (by unfold inU;omega) v rfl rfl rfl ?_;intro wl hm hg;have hI:=HI.out.sto rfl rfl hm hg;replace HI:=lh hI;have hS2:=hI.s;clear hI hm hg;refine hK.out _ _ (.inl (fun _=>hS2)) ?_;replace hS:=hS2;clear hK K hS2;refine pM 12 ?_;simp only [zz];refine pM 14 ?_;simp only [zz];refine rM 15 fun K hK=>?_;go_simp;obtain ⟨p,hp⟩ : ∃ p,p=wl.heap.size:=⟨_,rfl⟩;rw [← hp];refine nmA1 ?_;intro wl hb hg;rw [← hp] at hb;have hS2:(fun wr=>_) wl:=And.intro (HI.out.s.1.g hg) (HI.out.s.2.g hg);obtain ⟨I,e1,h1⟩:=HI.out.fin rfl rfl rfl rfl rfl hg hp hb;subst e1;have HE:=lh h1;clear hg hb hp h1 HI;refine hK.out _ _ (.inl (fun _=>hS2)) ?_;replace hS:=hS2;clear hK K hS2;try simp only [zz]
      refine pM 16 ?_;simp only [zz];refine pM 17 ?_;simp only [zz];refine dM ?_ _;go_wp2_with fail
      go_ret2;exact ⟨I,rfl,HE.out⟩
    ·skip;have hmm:=HMM.out;go_simp;clear hmm;obtain ⟨gm,wl,e1,e2,hI⟩:=HI.out.mk' 4 (.inr rfl);rw [e1,e2];replace HI:=lh hI;have hS2:=hI.s;clear hI e1 e2;refine hK.out _ _ (.inl (fun _=>hS2)) ?_;replace hS:=hS2;clear hK K hS2;try simp only [zz]
     refine rM 8 fun K hK=>?_;have hmm:=HMM.out;go_simp;clear hmm;obtain ⟨lm,wl,e1,e2,hI⟩:=HI.out.mk' 3 (.inl ⟨rfl,rfl⟩);rw [e1,e2];replace HI:=lh hI;have hS2:=hI.s;clear hI e1 e2;refine hK.out _ _ (.inl (fun _=>hS2)) ?_;replace hS:=hS2;clear hK K hS2;try simp only [zz]
     refine rM 11 fun K hK=>?_;refine wp_store_any (HI.out.m _ rfl rfl) _ _ _ 74 (.inr rfl) Tryz.underlying27 Tryz.underlying74 (by unfold maxLen;omega) (k:=1) (by unfold inU;omega) v rfl rfl rfl ?_;intro wl hm hg;have hI:=HI.out.sto rfl rfl hm hg;replace HI:=lh hI;have hS2:=hI.s;clear hI hm hg;refine hK.out _ _ (.inl (fun _=>hS2)) ?_;replace hS:=hS2;clear hK K hS2;refine pM 12 ?_;simp only [zz];refine pM 14 ?_;simp only [zz];refine rM 15 fun K hK=>?_;go_simp;obtain ⟨p,hp⟩ : ∃ p,p=wl.heap.size:=⟨_,rfl⟩;rw [← hp];refine nmA1 ?_;intro wl hb hg;rw [← hp] at hb;have hS2:(fun wr=>_) wl:=And.intro (HI.out.s.1.g hg) (HI.out.s.2.g hg);obtain ⟨I,e1,h1⟩:=HI.out.fin rfl rfl rfl rfl rfl hg hp hb;subst e1;have HE:=lh h1;clear hg hb hp h1 HI;refine hK.out _ _ (.inl (fun _=>hS2)) ?_;replace hS:=hS2;clear hK K hS2;try simp only [zz]
     refine pM 16 ?_;simp only [zz];refine pM 17 ?_;simp only [zz];refine dM ?_ _;go_wp2_with fail
     go_ret2;exact ⟨I,rfl,HE.out⟩
   ·skip;have hmm:=HMM.out;go_simp;clear hmm;obtain ⟨gm,wl,e1,e2,hI⟩:=HI.out.mk' 4 (.inr rfl);rw [e1,e2];replace HI:=lh hI;have hS2:=hI.s;clear hI e1 e2;refine hK.out _ _ (.inl (fun _=>hS2)) ?_;replace hS:=hS2;clear hK K hS2;try simp only [zz]
    refine aM [8,10] (cM 8 (fun K hK=>?_) (cM 10 (fun K hK=>?_) nM))
    ·skip;have hmm:=HMM.out;go_simp;clear hmm;obtain ⟨lm,wl,e1,e2,hI⟩:=HI.out.mk' 3 (.inl ⟨rfl,rfl⟩);rw [e1,e2];replace HI:=lh hI;have hS2:=hI.s;clear hI e1 e2;refine hK.out _ _ (.inl (fun _=>hS2)) ?_;replace hS:=hS2;clear hK K hS2;try simp only [zz]
     refine rM 10 fun K hK=>?_;go_simp;refine HI.out.opn.mono ?_;rintro e wl ⟨v,rfl,hI⟩;replace HI:=lh hI;have hS2:=hI.s;clear hI;refine hK.out _ _ (.inl (fun _=>hS2)) ?_;replace hS:=hS2;clear hK K hS2;try simp only [zz]
     refine rM 11 fun K hK=>?_;refine wp_store_any (HI.out.m _ rfl rfl) _ _ _ 74 (.inr rfl) Tryz.underlying27 Tryz.underlying74 (by unfold maxLen;omega) (k:=1) (by unfold inU;omega) v rfl rfl rfl ?_;intro wl hm hg;have hI:=HI.out.sto rfl rfl hm hg;replace HI:=lh hI;have hS2:=hI.s;clear hI hm hg;refine hK.out _ _ (.inl (fun _=>hS2)) ?_;replace hS:=hS2;clear hK K hS2;refine pM 12 ?_;simp only [zz];refine pM 14 ?_;simp only [zz];refine rM 15 fun K hK=>?_;go_simp;obtain ⟨p,hp⟩ : ∃ p,p=wl.heap.size:=⟨_,rfl⟩;rw [← hp];refine nmA1 ?_;intro wl hb hg;rw [← hp] at hb;have hS2:(fun wr=>_) wl:=And.intro (HI.out.s.1.g hg) (HI.out.s.2.g hg);obtain ⟨I,e1,h1⟩:=HI.out.fin rfl rfl rfl rfl rfl hg hp hb;subst e1;have HE:=lh h1;clear hg hb hp h1 HI;refine hK.out _ _ (.inl (fun _=>hS2)) ?_;replace hS:=hS2;clear hK K hS2;try simp only [zz]
     refine pM 16 ?_;simp only [zz];refine pM 17 ?_;simp only [zz];refine dM ?_ _;go_wp2_with fail
     go_ret2;exact ⟨I,rfl,HE.out⟩
    ·skip;go_simp;refine HI.out.opn.mono ?_;rintro e wl ⟨v,rfl,hI⟩;replace HI:=lh hI;have hS2:=hI.s;clear hI;refine hK.out _ _ (.inl (fun _=>hS2)) ?_;replace hS:=hS2;clear hK K hS2;try simp only [zz]
     refine rM 8 fun K hK=>?_;have hmm:=HMM.out;go_simp;clear hmm;obtain ⟨lm,wl,e1,e2,hI⟩:=HI.out.mk' 3 (.inl ⟨rfl,rfl⟩);rw [e1,e2];replace HI:=lh hI;have hS2:=hI.s;clear hI e1 e2;refine hK.out _ _ (.inl (fun _=>hS2)) ?_;replace hS:=hS2;clear hK K hS2;try simp only [zz]
     refine rM 11 fun K hK=>?_;refine wp_store_any (HI.out.m _ rfl rfl) _ _ _ 74 (.inr rfl) Tryz.underlying27 Tryz.underlying74 (by unfold maxLen;omega) (k:=1) (by unfold inU;omega) v rfl rfl rfl ?_;intro wl hm hg;have hI:=HI.out.sto rfl rfl hm hg;replace HI:=lh hI;have hS2:=hI.s;clear hI hm hg;refine hK.out _ _ (.inl (fun _=>hS2)) ?_;replace hS:=hS2;clear hK K hS2;refine pM 12 ?_;simp only [zz];refine pM 14 ?_;simp only [zz];refine rM 15 fun K hK=>?_;go_simp;obtain ⟨p,hp⟩ : ∃ p,p=wl.heap.size:=⟨_,rfl⟩;rw [← hp];refine nmA1 ?_;intro wl hb hg;rw [← hp] at hb;have hS2:(fun wr=>_) wl:=And.intro (HI.out.s.1.g hg) (HI.out.s.2.g hg);obtain ⟨I,e1,h1⟩:=HI.out.fin rfl rfl rfl rfl rfl hg hp hb;subst e1;have HE:=lh h1;clear hg hb hp h1 HI;refine hK.out _ _ (.inl (fun _=>hS2)) ?_;replace hS:=hS2;clear hK K hS2;try simp only [zz]
     refine pM 16 ?_;simp only [zz];refine pM 17 ?_;simp only [zz];refine dM ?_ _;go_wp2_with fail
     go_ret2;exact ⟨I,rfl,HE.out⟩
  ·skip;have hmm:=HMM.out;go_simp;clear hmm;obtain ⟨lm,wl,e1,e2,hI⟩:=HI.out.mk' 3 (.inl ⟨rfl,rfl⟩);rw [e1,e2];replace HI:=lh hI;have hS2:=hI.s;clear hI e1 e2;refine hK.out _ _ (.inl (fun _=>hS2)) ?_;replace hS:=hS2;clear hK K hS2;try simp only [zz]
   refine aM [5,13] (cM 5 (fun K hK=>?_) (cM 13 (fun K hK=>?_) nM))
   ·skip;go_simp;refine HI.out.vof.mono ?_;rintro e wl ⟨vb,rfl,hI⟩;replace HI:=lh hI;have hS2:=hI.s;clear hI;refine hK.out _ _ (.inl (fun _=>hS2)) ?_;replace hS:=hS2;clear hK K hS2;try simp only [zz]
    refine aM [10,13] (cM 10 (fun K hK=>?_) (cM 13 (fun K hK=>?_) nM))
    ·skip;go_simp;refine HI.out.opn.mono ?_;rintro e wl ⟨v,rfl,hI⟩;replace HI:=lh hI;have hS2:=hI.s;clear hI;refine hK.out _ _ (.inl (fun _=>hS2)) ?_;replace hS:=hS2;clear hK K hS2;try simp only [zz]
     refine aM [11,13] (cM 11 (fun K hK=>?_) (cM 13 (fun K hK=>?_) nM))
     ·skip;refine wp_store_any (HI.out.m _ rfl rfl) _ _ _ 74 (.inr rfl) Tryz.underlying27 Tryz.underlying74 (by unfold maxLen;omega) (k:=1) (by unfold inU;omega) v rfl rfl rfl ?_;intro wl hm hg;have hI:=HI.out.sto rfl rfl hm hg;replace HI:=lh hI;have hS2:=hI.s;clear hI hm hg;refine hK.out _ _ (.inl (fun _=>hS2)) ?_;replace hS:=hS2;clear hK K hS2;refine pM 12 ?_;simp only [zz];refine rM 13 fun K hK=>?_;have hmm:=HMM.out;go_simp;clear hmm;obtain ⟨gm,wl,e1,e2,hI⟩:=HI.out.mk' 4 (.inr rfl);rw [e1,e2];replace HI:=lh hI;have hS2:=hI.s;clear hI e1 e2;refine hK.out _ _ (.inl (fun _=>hS2)) ?_;replace hS:=hS2;clear hK K hS2;try simp only [zz]
      refine pM 14 ?_;simp only [zz];refine rM 15 fun K hK=>?_;go_simp;obtain ⟨p,hp⟩ : ∃ p,p=wl.heap.size:=⟨_,rfl⟩;rw [← hp];refine nmA1 ?_;intro wl hb hg;rw [← hp] at hb;have hS2:(fun wr=>_) wl:=And.intro (HI.out.s.1.g hg) (HI.out.s.2.g hg);obtain ⟨I,e1,h1⟩:=HI.out.fin rfl rfl rfl rfl rfl hg hp hb;subst e1;have HE:=lh h1;clear hg hb hp h1 HI;refine hK.out _ _ (.inl (fun _=>hS2)) ?_;replace hS:=hS2;clear hK K hS2;try simp only [zz]
      refine pM 16 ?_;simp only [zz];refine pM 17 ?_;simp only [zz];refine dM ?_ _;go_wp2_with fail
      go_ret2;exact ⟨I,rfl,HE.out⟩
     ·skip;have hmm:=HMM.out;go_simp;clear hmm;obtain ⟨gm,wl,e1,e2,hI⟩:=HI.out.mk' 4 (.inr rfl);rw [e1,e2];replace HI:=lh hI;have hS2:=hI.s;clear hI e1 e2;refine hK.out _ _ (.inl (fun _=>hS2)) ?_;replace hS:=hS2;clear hK K hS2;try simp only [zz]
      refine rM 11 fun K hK=>?_;refine wp_store_any (HI.out.m _ rfl rfl) _ _ _ 74 (.inr rfl) Tryz.underlying27 Tryz.underlying74 (by unfold maxLen;omega) (k:=1) (by unfold inU;omega) v rfl rfl rfl ?_;intro wl hm hg;have hI:=HI.out.sto rfl rfl hm hg;replace HI:=lh hI;have hS2:=hI.s;clear hI hm hg;refine hK.out _ _ (.inl (fun _=>hS2)) ?_;replace hS:=hS2;clear hK K hS2;refine pM 12 ?_;simp only [zz];refine pM 14 ?_;simp only [zz];refine rM 15 fun K hK=>?_;go_simp;obtain ⟨p,hp⟩ : ∃ p,p=wl.heap.size:=⟨_,rfl⟩;rw [← hp];refine nmA1 ?_;intro wl hb hg;rw [← hp] at hb;have hS2:(fun wr=>_) wl:=And.intro (HI.out.s.1.g hg) (HI.out.s.2.g hg);obtain ⟨I,e1,h1⟩:=HI.out.fin rfl rfl rfl rfl rfl hg hp hb;subst e1;have HE:=lh h1;clear hg hb hp h1 HI;refine hK.out _ _ (.inl (fun _=>hS2)) ?_;replace hS:=hS2;clear hK K hS2;try simp only [zz]
      refine pM 16 ?_;simp only [zz];refine pM 17 ?_;simp only [zz];refine dM ?_ _;go_wp2_with fail
      go_ret2;exact ⟨I,rfl,HE.out⟩
    ·skip;have hmm:=HMM.out;go_simp;clear hmm;obtain ⟨gm,wl,e1,e2,hI⟩:=HI.out.mk' 4 (.inr rfl);rw [e1,e2];replace HI:=lh hI;have hS2:=hI.s;clear hI e1 e2;refine hK.out _ _ (.inl (fun _=>hS2)) ?_;replace hS:=hS2;clear hK K hS2;try simp only [zz]
     refine rM 10 fun K hK=>?_;go_simp;refine HI.out.opn.mono ?_;rintro e wl ⟨v,rfl,hI⟩;replace HI:=lh hI;have hS2:=hI.s;clear hI;refine hK.out _ _ (.inl (fun _=>hS2)) ?_;replace hS:=hS2;clear hK K hS2;try simp only [zz]
     refine rM 11 fun K hK=>?_;refine wp_store_any (HI.out.m _ rfl rfl) _ _ _ 74 (.inr rfl) Tryz.underlying27 Tryz.underlying74 (by unfold maxLen;omega) (k:=1) (by unfold inU;omega) v rfl rfl rfl ?_;intro wl hm hg;have hI:=HI.out.sto rfl rfl hm hg;replace HI:=lh hI;have hS2:=hI.s;clear hI hm hg;refine hK.out _ _ (.inl (fun _=>hS2)) ?_;replace hS:=hS2;clear hK K hS2;refine pM 12 ?_;simp only [zz];refine pM 14 ?_;simp only [zz];refine rM 15 fun K hK=>?_;go_simp;obtain ⟨p,hp⟩ : ∃ p,p=wl.heap.size:=⟨_,rfl⟩;rw [← hp];refine nmA1 ?_;intro wl hb hg;rw [← hp] at hb;have hS2:(fun wr=>_) wl:=And.intro (HI.out.s.1.g hg) (HI.out.s.2.g hg);obtain ⟨I,e1,h1⟩:=HI.out.fin rfl rfl rfl rfl rfl hg hp hb;subst e1;have HE:=lh h1;clear hg hb hp h1 HI;refine hK.out _ _ (.inl (fun _=>hS2)) ?_;replace hS:=hS2;clear hK K hS2;try simp only [zz]
     refine pM 16 ?_;simp only [zz];refine pM 17 ?_;simp only [zz];refine dM ?_ _;go_wp2_with fail
     go_ret2;exact ⟨I,rfl,HE.out⟩
   ·skip;have hmm:=HMM.out;go_simp;clear hmm;obtain ⟨gm,wl,e1,e2,hI⟩:=HI.out.mk' 4 (.inr rfl);rw [e1,e2];replace HI:=lh hI;have hS2:=hI.s;clear hI e1 e2;refine hK.out _ _ (.inl (fun _=>hS2)) ?_;replace hS:=hS2;clear hK K hS2;try simp only [zz]
    refine rM 5 fun K hK=>?_;go_simp;refine HI.out.vof.mono ?_;rintro e wl ⟨vb,rfl,hI⟩;replace HI:=lh hI;have hS2:=hI.s;clear hI;refine hK.out _ _ (.inl (fun _=>hS2)) ?_;replace hS:=hS2;clear hK K hS2;try simp only [zz]
    refine rM 10 fun K hK=>?_;go_simp;refine HI.out.opn.mono ?_;rintro e wl ⟨v,rfl,hI⟩;replace HI:=lh hI;have hS2:=hI.s;clear hI;refine hK.out _ _ (.inl (fun _=>hS2)) ?_;replace hS:=hS2;clear hK K hS2;try simp only [zz]
    refine rM 11 fun K hK=>?_;refine wp_store_any (HI.out.m _ rfl rfl) _ _ _ 74 (.inr rfl) Tryz.underlying27 Tryz.underlying74 (by unfold maxLen;omega) (k:=1) (by unfold inU;omega) v rfl rfl rfl ?_;intro wl hm hg;have hI:=HI.out.sto rfl rfl hm hg;replace HI:=lh hI;have hS2:=hI.s;clear hI hm hg;refine hK.out _ _ (.inl (fun _=>hS2)) ?_;replace hS:=hS2;clear hK K hS2;refine pM 12 ?_;simp only [zz];refine pM 14 ?_;simp only [zz];refine rM 15 fun K hK=>?_;go_simp;obtain ⟨p,hp⟩ : ∃ p,p=wl.heap.size:=⟨_,rfl⟩;rw [← hp];refine nmA1 ?_;intro wl hb hg;rw [← hp] at hb;have hS2:(fun wr=>_) wl:=And.intro (HI.out.s.1.g hg) (HI.out.s.2.g hg);obtain ⟨I,e1,h1⟩:=HI.out.fin rfl rfl rfl rfl rfl hg hp hb;subst e1;have HE:=lh h1;clear hg hb hp h1 HI;refine hK.out _ _ (.inl (fun _=>hS2)) ?_;replace hS:=hS2;clear hK K hS2;try simp only [zz]
    refine pM 16 ?_;simp only [zz];refine pM 17 ?_;simp only [zz];refine dM ?_ _;go_wp2_with fail
    go_ret2;exact ⟨I,rfl,HE.out⟩
  ·skip;have hmm:=HMM.out;go_simp;clear hmm;obtain ⟨gm,wl,e1,e2,hI⟩:=HI.out.mk' 4 (.inr rfl);rw [e1,e2];replace HI:=lh hI;have hS2:=hI.s;clear hI e1 e2;refine hK.out _ _ (.inl (fun _=>hS2)) ?_;replace hS:=hS2;clear hK K hS2;try simp only [zz]
   refine aM [5,8] (cM 5 (fun K hK=>?_) (cM 8 (fun K hK=>?_) nM))
   ·skip;go_simp;refine HI.out.vof.mono ?_;rintro e wl ⟨vb,rfl,hI⟩;replace HI:=lh hI;have hS2:=hI.s;clear hI;refine hK.out _ _ (.inl (fun _=>hS2)) ?_;replace hS:=hS2;clear hK K hS2;try simp only [zz]
    refine aM [8,10] (cM 8 (fun K hK=>?_) (cM 10 (fun K hK=>?_) nM))
    ·skip;have hmm:=HMM.out;go_simp;clear hmm;obtain ⟨lm,wl,e1,e2,hI⟩:=HI.out.mk' 3 (.inl ⟨rfl,rfl⟩);rw [e1,e2];replace HI:=lh hI;have hS2:=hI.s;clear hI e1 e2;refine hK.out _ _ (.inl (fun _=>hS2)) ?_;replace hS:=hS2;clear hK K hS2;try simp only [zz]
     refine rM 10 fun K hK=>?_;go_simp;refine HI.out.opn.mono ?_;rintro e wl ⟨v,rfl,hI⟩;replace HI:=lh hI;have hS2:=hI.s;clear hI;refine hK.out _ _ (.inl (fun _=>hS2)) ?_;replace hS:=hS2;clear hK K hS2;try simp only [zz]
     refine rM 11 fun K hK=>?_;refine wp_store_any (HI.out.m _ rfl rfl) _ _ _ 74 (.inr rfl) Tryz.underlying27 Tryz.underlying74 (by unfold maxLen;omega) (k:=1) (by unfold inU;omega) v rfl rfl rfl ?_;intro wl hm hg;have hI:=HI.out.sto rfl rfl hm hg;replace HI:=lh hI;have hS2:=hI.s;clear hI hm hg;refine hK.out _ _ (.inl (fun _=>hS2)) ?_;replace hS:=hS2;clear hK K hS2;refine pM 12 ?_;simp only [zz];refine pM 14 ?_;simp only [zz];refine rM 15 fun K hK=>?_;go_simp;obtain ⟨p,hp⟩ : ∃ p,p=wl.heap.size:=⟨_,rfl⟩;rw [← hp];refine nmA1 ?_;intro wl hb hg;rw [← hp] at hb;have hS2:(fun wr=>_) wl:=And.intro (HI.out.s.1.g hg) (HI.out.s.2.g hg);obtain ⟨I,e1,h1⟩:=HI.out.fin rfl rfl rfl rfl rfl hg hp hb;subst e1;have HE:=lh h1;clear hg hb hp h1 HI;refine hK.out _ _ (.inl (fun _=>hS2)) ?_;replace hS:=hS2;clear hK K hS2;try simp only [zz]
     refine pM 16 ?_;simp only [zz];refine pM 17 ?_;simp only [zz];refine dM ?_ _;go_wp2_with fail
     go_ret2;exact ⟨I,rfl,HE.out⟩
    ·skip;go_simp;refine HI.out.opn.mono ?_;rintro e wl ⟨v,rfl,hI⟩;replace HI:=lh hI;have hS2:=hI.s;clear hI;refine hK.out _ _ (.inl (fun _=>hS2)) ?_;replace hS:=hS2;clear hK K hS2;try simp only [zz]
     refine rM 8 fun K hK=>?_;have hmm:=HMM.out;go_simp;clear hmm;obtain ⟨lm,wl,e1,e2,hI⟩:=HI.out.mk' 3 (.inl ⟨rfl,rfl⟩);rw [e1,e2];replace HI:=lh hI;have hS2:=hI.s;clear hI e1 e2;refine hK.out _ _ (.inl (fun _=>hS2)) ?_;replace hS:=hS2;clear hK K hS2;try simp only [zz]
     refine rM 11 fun K hK=>?_;refine wp_store_any (HI.out.m _ rfl rfl) _ _ _ 74 (.inr rfl) Tryz.underlying27 Tryz.underlying74 (by unfold maxLen;omega) (k:=1) (by unfold inU;omega) v rfl rfl rfl ?_;intro wl hm hg;have hI:=HI.out.sto rfl rfl hm hg;replace HI:=lh hI;have hS2:=hI.s;clear hI hm hg;refine hK.out _ _ (.inl (fun _=>hS2)) ?_;replace hS:=hS2;clear hK K hS2;refine pM 12 ?_;simp only [zz];refine pM 14 ?_;simp only [zz];refine rM 15 fun K hK=>?_;go_simp;obtain ⟨p,hp⟩ : ∃ p,p=wl.heap.size:=⟨_,rfl⟩;rw [← hp];refine nmA1 ?_;intro wl hb hg;rw [← hp] at hb;have hS2:(fun wr=>_) wl:=And.intro (HI.out.s.1.g hg) (HI.out.s.2.g hg);obtain ⟨I,e1,h1⟩:=HI.out.fin rfl rfl rfl rfl rfl hg hp hb;subst e1;have HE:=lh h1;clear hg hb hp h1 HI;refine hK.out _ _ (.inl (fun _=>hS2)) ?_;replace hS:=hS2;clear hK K hS2;try simp only [zz]
     refine pM 16 ?_;simp only [zz];refine pM 17 ?_;simp only [zz];refine dM ?_ _;go_wp2_with fail
     go_ret2;exact ⟨I,rfl,HE.out⟩
   ·skip;have hmm:=HMM.out;go_simp;clear hmm;obtain ⟨lm,wl,e1,e2,hI⟩:=HI.out.mk' 3 (.inl ⟨rfl,rfl⟩);rw [e1,e2];replace HI:=lh hI;have hS2:=hI.s;clear hI e1 e2;refine hK.out _ _ (.inl (fun _=>hS2)) ?_;replace hS:=hS2;clear hK K hS2;try simp only [zz]
    refine rM 5 fun K hK=>?_;go_simp;refine HI.out.vof.mono ?_;rintro e wl ⟨vb,rfl,hI⟩;replace HI:=lh hI;have hS2:=hI.s;clear hI;refine hK.out _ _ (.inl (fun _=>hS2)) ?_;replace hS:=hS2;clear hK K hS2;try simp only [zz]
    refine rM 10 fun K hK=>?_;go_simp;refine HI.out.opn.mono ?_;rintro e wl ⟨v,rfl,hI⟩;replace HI:=lh hI;have hS2:=hI.s;clear hI;refine hK.out _ _ (.inl (fun _=>hS2)) ?_;replace hS:=hS2;clear hK K hS2;try simp only [zz]
    refine rM 11 fun K hK=>?_;refine wp_store_any (HI.out.m _ rfl rfl) _ _ _ 74 (.inr rfl) Tryz.underlying27 Tryz.underlying74 (by unfold maxLen;omega) (k:=1) (by unfold inU;omega) v rfl rfl rfl ?_;intro wl hm hg;have hI:=HI.out.sto rfl rfl hm hg;replace HI:=lh hI;have hS2:=hI.s;clear hI hm hg;refine hK.out _ _ (.inl (fun _=>hS2)) ?_;replace hS:=hS2;clear hK K hS2;refine pM 12 ?_;simp only [zz];refine pM 14 ?_;simp only [zz];refine rM 15 fun K hK=>?_;go_simp;obtain ⟨p,hp⟩ : ∃ p,p=wl.heap.size:=⟨_,rfl⟩;rw [← hp];refine nmA1 ?_;intro wl hb hg;rw [← hp] at hb;have hS2:(fun wr=>_) wl:=And.intro (HI.out.s.1.g hg) (HI.out.s.2.g hg);obtain ⟨I,e1,h1⟩:=HI.out.fin rfl rfl rfl rfl rfl hg hp hb;subst e1;have HE:=lh h1;clear hg hb hp h1 HI;refine hK.out _ _ (.inl (fun _=>hS2)) ?_;replace hS:=hS2;clear hK K hS2;try simp only [zz]
    refine pM 16 ?_;simp only [zz];refine pM 17 ?_;simp only [zz];refine dM ?_ _;go_wp2_with fail
    go_ret2;exact ⟨I,rfl,HE.out⟩
 ·skip;have hmm:=HMM.out;go_simp;clear hmm;obtain ⟨lm,wl,e1,e2,hI⟩:=HI.out.mk' 3 (.inl ⟨rfl,rfl⟩);rw [e1,e2];replace HI:=lh hI;have hS2:=hI.s;clear hI e1 e2;refine hK.out _ _ (.inl (fun _=>hS2)) ?_;replace hS:=hS2;clear hK K hS2;try simp only [zz]
  refine aM [1,13] (cM 1 (fun K hK=>?_) (cM 13 (fun K hK=>?_) nM))
  ·skip;go_simp;refine HI.out.tof.mono ?_;rintro e wl ⟨tp,tb,rfl,hI⟩;replace HI:=lh hI;have hS2:=hI.s;clear hI;refine hK.out _ _ (.inl (fun _=>hS2)) ?_;replace hS:=hS2;clear hK K hS2;try simp only [zz]
   refine aM [5,13] (cM 5 (fun K hK=>?_) (cM 13 (fun K hK=>?_) nM))
   ·skip;go_simp;refine HI.out.vof.mono ?_;rintro e wl ⟨vb,rfl,hI⟩;replace HI:=lh hI;have hS2:=hI.s;clear hI;refine hK.out _ _ (.inl (fun _=>hS2)) ?_;replace hS:=hS2;clear hK K hS2;try simp only [zz]
    refine aM [10,13] (cM 10 (fun K hK=>?_) (cM 13 (fun K hK=>?_) nM))
    ·skip;go_simp;refine HI.out.opn.mono ?_;rintro e wl ⟨v,rfl,hI⟩;replace HI:=lh hI;have hS2:=hI.s;clear hI;refine hK.out _ _ (.inl (fun _=>hS2)) ?_;replace hS:=hS2;clear hK K hS2;try simp only [zz]
     refine aM [11,13] (cM 11 (fun K hK=>?_) (cM 13 (fun K hK=>?_) nM))
     ·skip;refine wp_store_any (HI.out.m _ rfl rfl) _ _ _ 74 (.inr rfl) Tryz.underlying27 Tryz.underlying74 (by unfold maxLen;omega) (k:=1) (by unfold inU;omega) v rfl rfl rfl ?_;intro wl hm hg;have hI:=HI.out.sto rfl rfl hm hg;replace HI:=lh hI;have hS2:=hI.s;clear hI hm hg;refine hK.out _ _ (.inl (fun _=>hS2)) ?_;replace hS:=hS2;clear hK K hS2;refine pM 12 ?_;simp only [zz];refine rM 13 fun K hK=>?_;have hmm:=HMM.out;go_simp;clear hmm;obtain ⟨gm,wl,e1,e2,hI⟩:=HI.out.mk' 4 (.inr rfl);rw [e1,e2];replace HI:=lh hI;have hS2:=hI.s;clear hI e1 e2;refine hK.out _ _ (.inl (fun _=>hS2)) ?_;replace hS:=hS2;clear hK K hS2;try simp only [zz]
      refine pM 14 ?_;simp only [zz];refine rM 15 fun K hK=>?_;go_simp;obtain ⟨p,hp⟩ : ∃ p,p=wl.heap.size:=⟨_,rfl⟩;rw [← hp];refine nmA1 ?_;intro wl hb hg;rw [← hp] at hb;have hS2:(fun wr=>_) wl:=And.intro (HI.out.s.1.g hg) (HI.out.s.2.g hg);obtain ⟨I,e1,h1⟩:=HI.out.fin rfl rfl rfl rfl rfl hg hp hb;subst e1;have HE:=lh h1;clear hg hb hp h1 HI;refine hK.out _ _ (.inl (fun _=>hS2)) ?_;replace hS:=hS2;clear hK K hS2;try simp only [zz]
      refine pM 16 ?_;simp only [zz];refine pM 17 ?_;simp only [zz];refine dM ?_ _;go_wp2_with fail
      go_ret2;exact ⟨I,rfl,HE.out⟩
     ·skip;have hmm:=HMM.out;go_simp;clear hmm;obtain ⟨gm,wl,e1,e2,hI⟩:=HI.out.mk' 4 (.inr rfl);rw [e1,e2];replace HI:=lh hI;have hS2:=hI.s;clear hI e1 e2;refine hK.out _ _ (.inl (fun _=>hS2)) ?_;replace hS:=hS2;clear hK K hS2;try simp only [zz]
      refine rM 11 fun K hK=>?_;refine wp_store_any (HI.out.m _ rfl rfl) _ _ _ 74 (.inr rfl) Tryz.underlying27 Tryz.underlying74 (by unfold maxLen;omega) (k:=1) (by unfold inU;omega) v rfl rfl rfl ?_;intro wl hm hg;have hI:=HI.out.sto rfl rfl hm hg;replace HI:=lh hI;have hS2:=hI.s;clear hI hm hg;refine hK.out _ _ (.inl (fun _=>hS2)) ?_;replace hS:=hS2;clear hK K hS2;refine pM 12 ?_;simp only [zz];refine pM 14 ?_;simp only [zz];refine rM 15 fun K hK=>?_;go_simp;obtain ⟨p,hp⟩ : ∃ p,p=wl.heap.size:=⟨_,rfl⟩;rw [← hp];refine nmA1 ?_;intro wl hb hg;rw [← hp] at hb;have hS2:(fun wr=>_) wl:=And.intro (HI.out.s.1.g hg) (HI.out.s.2.g hg);obtain ⟨I,e1,h1⟩:=HI.out.fin rfl rfl rfl rfl rfl hg hp hb;subst e1;have HE:=lh h1;clear hg hb hp h1 HI;refine hK.out _ _ (.inl (fun _=>hS2)) ?_;replace hS:=hS2;clear hK K hS2;try simp only [zz]
      refine pM 16 ?_;simp only [zz];refine pM 17 ?_;simp only [zz];refine dM ?_ _;go_wp2_with fail
      go_ret2;exact ⟨I,rfl,HE.out⟩
    ·skip;have hmm:=HMM.out;go_simp;clear hmm;obtain ⟨gm,wl,e1,e2,hI⟩:=HI.out.mk' 4 (.inr rfl);rw [e1,e2];replace HI:=lh hI;have hS2:=hI.s;clear hI e1 e2;refine hK.out _ _ (.inl (fun _=>hS2)) ?_;replace hS:=hS2;clear hK K hS2;try simp only [zz]
     refine rM 10 fun K hK=>?_;go_simp;refine HI.out.opn.mono ?_;rintro e wl ⟨v,rfl,hI⟩;replace HI:=lh hI;have hS2:=hI.s;clear hI;refine hK.out _ _ (.inl (fun _=>hS2)) ?_;replace hS:=hS2;clear hK K hS2;try simp only [zz]
     refine rM 11 fun K hK=>?_;refine wp_store_any (HI.out.m _ rfl rfl) _ _ _ 74 (.inr rfl) Tryz.underlying27 Tryz.underlying74 (by unfold maxLen;omega) (k:=1) (by unfold inU;omega) v rfl rfl rfl ?_;intro wl hm hg;have hI:=HI.out.sto rfl rfl hm hg;replace HI:=lh hI;have hS2:=hI.s;clear hI hm hg;refine hK.out _ _ (.inl (fun _=>hS2)) ?_;replace hS:=hS2;clear hK K hS2;refine pM 12 ?_;simp only [zz];refine pM 14 ?_;simp only [zz];refine rM 15 fun K hK=>?_;go_simp;obtain ⟨p,hp⟩ : ∃ p,p=wl.heap.size:=⟨_,rfl⟩;rw [← hp];refine nmA1 ?_;intro wl hb hg;rw [← hp] at hb;have hS2:(fun wr=>_) wl:=And.intro (HI.out.s.1.g hg) (HI.out.s.2.g hg);obtain ⟨I,e1,h1⟩:=HI.out.fin rfl rfl rfl rfl rfl hg hp hb;subst e1;have HE:=lh h1;clear hg hb hp h1 HI;refine hK.out _ _ (.inl (fun _=>hS2)) ?_;replace hS:=hS2;clear hK K hS2;try simp only [zz]
     refine pM 16 ?_;simp only [zz];refine pM 17 ?_;simp only [zz];refine dM ?_ _;go_wp2_with fail
     go_ret2;exact ⟨I,rfl,HE.out⟩
   ·skip;have hmm:=HMM.out;go_simp;clear hmm;obtain ⟨gm,wl,e1,e2,hI⟩:=HI.out.mk' 4 (.inr rfl);rw [e1,e2];replace HI:=lh hI;have hS2:=hI.s;clear hI e1 e2;refine hK.out _ _ (.inl (fun _=>hS2)) ?_;replace hS:=hS2;clear hK K hS2;try simp only [zz]
    refine rM 5 fun K hK=>?_;go_simp;refine HI.out.vof.mono ?_;rintro e wl ⟨vb,rfl,hI⟩;replace HI:=lh hI;have hS2:=hI.s;clear hI;refine hK.out _ _ (.inl (fun _=>hS2)) ?_;replace hS:=hS2;clear hK K hS2;try simp only [zz]
    refine rM 10 fun K hK=>?_;go_simp;refine HI.out.opn.mono ?_;rintro e wl ⟨v,rfl,hI⟩;replace HI:=lh hI;have hS2:=hI.s;clear hI;refine hK.out _ _ (.inl (fun _=>hS2)) ?_;replace hS:=hS2;clear hK K hS2;try simp only [zz]
    refine rM 11 fun K hK=>?_;refine wp_store_any (HI.out.m _ rfl rfl) _ _ _ 74 (.inr rfl) Tryz.underlying27 Tryz.underlying74 (by unfold maxLen;omega) (k:=1) (by unfold inU;omega) v rfl rfl rfl ?_;intro wl hm hg;have hI:=HI.out.sto rfl rfl hm hg;replace HI:=lh hI;have hS2:=hI.s;clear hI hm hg;refine hK.out _ _ (.inl (fun _=>hS2)) ?_;replace hS:=hS2;clear hK K hS2;refine pM 12 ?_;simp only [zz];refine pM 14 ?_;simp only [zz];refine rM 15 fun K hK=>?_;go_simp;obtain ⟨p,hp⟩ : ∃ p,p=wl.heap.size:=⟨_,rfl⟩;rw [← hp];refine nmA1 ?_;intro wl hb hg;rw [← hp] at hb;have hS2:(fun wr=>_) wl:=And.intro (HI.out.s.1.g hg) (HI.out.s.2.g hg);obtain ⟨I,e1,h1⟩:=HI.out.fin rfl rfl rfl rfl rfl hg hp hb;subst e1;have HE:=lh h1;clear hg hb hp h1 HI;refine hK.out _ _ (.inl (fun _=>hS2)) ?_;replace hS:=hS2;clear hK K hS2;try simp only [zz]
    refine pM 16 ?_;simp only [zz];refine pM 17 ?_;simp only [zz];refine dM ?_ _;go_wp2_with fail
    go_ret2;exact ⟨I,rfl,HE.out⟩
  ·skip;have hmm:=HMM.out;go_simp;clear hmm;obtain ⟨gm,wl,e1,e2,hI⟩:=HI.out.mk' 4 (.inr rfl);rw [e1,e2];replace HI:=lh hI;have hS2:=hI.s;clear hI e1 e2;refine hK.out _ _ (.inl (fun _=>hS2)) ?_;replace hS:=hS2;clear hK K hS2;try simp only [zz]
   refine rM 1 fun K hK=>?_;go_simp;refine HI.out.tof.mono ?_;rintro e wl ⟨tp,tb,rfl,hI⟩;replace HI:=lh hI;have hS2:=hI.s;clear hI;refine hK.out _ _ (.inl (fun _=>hS2)) ?_;replace hS:=hS2;clear hK K hS2;try simp only [zz]
   refine rM 5 fun K hK=>?_;go_simp;refine HI.out.vof.mono ?_;rintro e wl ⟨vb,rfl,hI⟩;replace HI:=lh hI;have hS2:=hI.s;clear hI;refine hK.out _ _ (.inl (fun _=>hS2)) ?_;replace hS:=hS2;clear hK K hS2;try simp only [zz]
   refine rM 10 fun K hK=>?_;go_simp;refine HI.out.opn.mono ?_;rintro e wl ⟨v,rfl,hI⟩;replace HI:=lh hI;have hS2:=hI.s;clear hI;refine hK.out _ _ (.inl (fun _=>hS2)) ?_;replace hS:=hS2;clear hK K hS2;try simp only [zz]
   refine rM 11 fun K hK=>?_;refine wp_store_any (HI.out.m _ rfl rfl) _ _ _ 74 (.inr rfl) Tryz.underlying27 Tryz.underlying74 (by unfold maxLen;omega) (k:=1) (by unfold inU;omega) v rfl rfl rfl ?_;intro wl hm hg;have hI:=HI.out.sto rfl rfl hm hg;replace HI:=lh hI;have hS2:=hI.s;clear hI hm hg;refine hK.out _ _ (.inl (fun _=>hS2)) ?_;replace hS:=hS2;clear hK K hS2;refine pM 12 ?_;simp only [zz];refine pM 14 ?_;simp only [zz];refine rM 15 fun K hK=>?_;go_simp;obtain ⟨p,hp⟩ : ∃ p,p=wl.heap.size:=⟨_,rfl⟩;rw [← hp];refine nmA1 ?_;intro wl hb hg;rw [← hp] at hb;have hS2:(fun wr=>_) wl:=And.intro (HI.out.s.1.g hg) (HI.out.s.2.g hg);obtain ⟨I,e1,h1⟩:=HI.out.fin rfl rfl rfl rfl rfl hg hp hb;subst e1;have HE:=lh h1;clear hg hb hp h1 HI;refine hK.out _ _ (.inl (fun _=>hS2)) ?_;replace hS:=hS2;clear hK K hS2;try simp only [zz]
   refine pM 16 ?_;simp only [zz];refine pM 17 ?_;simp only [zz];refine dM ?_ _;go_wp2_with fail
   go_ret2;exact ⟨I,rfl,HE.out⟩
 ·skip;have hmm:=HMM.out;go_simp;clear hmm;obtain ⟨gm,wl,e1,e2,hI⟩:=HI.out.mk' 4 (.inr rfl);rw [e1,e2];replace HI:=lh hI;have hS2:=hI.s;clear hI e1 e2;refine hK.out _ _ (.inl (fun _=>hS2)) ?_;replace hS:=hS2;clear hK K hS2;try simp only [zz]
  refine aM [1,8] (cM 1 (fun K hK=>?_) (cM 8 (fun K hK=>?_) nM))
  ·skip;go_simp;refine HI.out.tof.mono ?_;rintro e wl ⟨tp,tb,rfl,hI⟩;replace HI:=lh hI;have hS2:=hI.s;clear hI;refine hK.out _ _ (.inl (fun _=>hS2)) ?_;replace hS:=hS2;clear hK K hS2;try simp only [zz]
   refine aM [5,8] (cM 5 (fun K hK=>?_) (cM 8 (fun K hK=>?_) nM))
   ·skip;go_simp;refine HI.out.vof.mono ?_;rintro e wl ⟨vb,rfl,hI⟩;replace HI:=lh hI;have hS2:=hI.s;clear hI;refine hK.out _ _ (.inl (fun _=>hS2)) ?_;replace hS:=hS2;clear hK K hS2;try simp only [zz]
    refine aM [8,10] (cM 8 (fun K hK=>?_) (cM 10 (fun K hK=>?_) nM))
    ·skip;have hmm:=HMM.out;go_simp;clear hmm;obtain ⟨lm,wl,e1,e2,hI⟩:=HI.out.mk' 3 (.inl ⟨rfl,rfl⟩);rw [e1,e2];replace HI:=lh hI;have hS2:=hI.s;clear hI e1 e2;refine hK.out _ _ (.inl (fun _=>hS2)) ?_;replace hS:=hS2;clear hK K hS2;try simp only [zz]
     refine rM 10 fun K hK=>?_;go_simp;refine HI.out.opn.mono ?_;rintro e wl ⟨v,rfl,hI⟩;replace HI:=lh hI;have hS2:=hI.s;clear hI;refine hK.out _ _ (.inl (fun _=>hS2)) ?_;replace hS:=hS2;clear hK K hS2;try simp only [zz]
     refine rM 11 fun K hK=>?_;refine wp_store_any (HI.out.m _ rfl rfl) _ _ _ 74 (.inr rfl) Tryz.underlying27 Tryz.underlying74 (by unfold maxLen;omega) (k:=1) (by unfold inU;omega) v rfl rfl rfl ?_;intro wl hm hg;have hI:=HI.out.sto rfl rfl hm hg;replace HI:=lh hI;have hS2:=hI.s;clear hI hm hg;refine hK.out _ _ (.inl (fun _=>hS2)) ?_;replace hS:=hS2;clear hK K hS2;refine pM 12 ?_;simp only [zz];refine pM 14 ?_;simp only [zz];refine rM 15 fun K hK=>?_;go_simp;obtain ⟨p,hp⟩ : ∃ p,p=wl.heap.size:=⟨_,rfl⟩;rw [← hp];refine nmA1 ?_;intro wl hb hg;rw [← hp] at hb;have hS2:(fun wr=>_) wl:=And.intro (HI.out.s.1.g hg) (HI.out.s.2.g hg);obtain ⟨I,e1,h1⟩:=HI.out.fin rfl rfl rfl rfl rfl hg hp hb;subst e1;have HE:=lh h1;clear hg hb hp h1 HI;refine hK.out _ _ (.inl (fun _=>hS2)) ?_;replace hS:=hS2;clear hK K hS2;try simp only [zz]
     refine pM 16 ?_;simp only [zz];refine pM 17 ?_;simp only [zz];refine dM ?_ _;go_wp2_with fail
     go_ret2;exact ⟨I,rfl,HE.out⟩
    ·skip;go_simp;refine HI.out.opn.mono ?_;rintro e wl ⟨v,rfl,hI⟩;replace HI:=lh hI;have hS2:=hI.s;clear hI;refine hK.out _ _ (.inl (fun _=>hS2)) ?_;replace hS:=hS2;clear hK K hS2;try simp only [zz]
     refine rM 8 fun K hK=>?_;have hmm:=HMM.out;go_simp;clear hmm;obtain ⟨lm,wl,e1,e2,hI⟩:=HI.out.mk' 3 (.inl ⟨rfl,rfl⟩);rw [e1,e2];replace HI:=lh hI;have hS2:=hI.s;clear hI e1 e2;refine hK.out _ _ (.inl (fun _=>hS2)) ?_;replace hS:=hS2;clear hK K hS2;try simp only [zz]
     refine rM 11 fun K hK=>?_;refine wp_store_any (HI.out.m _ rfl rfl) _ _ _ 74 (.inr rfl) Tryz.underlying27 Tryz.underlying74 (by unfold maxLen;omega) (k:=1) (by unfold inU;omega) v rfl rfl rfl ?_;intro wl hm hg;have hI:=HI.out.sto rfl rfl hm hg;replace HI:=lh hI;have hS2:=hI.s;clear hI hm hg;refine hK.out _ _ (.inl (fun _=>hS2)) ?_;replace hS:=hS2;clear hK K hS2;refine pM 12 ?_;simp only [zz];refine pM 14 ?_;simp only [zz];refine rM 15 fun K hK=>?_;go_simp;obtain ⟨p,hp⟩ : ∃ p,p=wl.heap.size:=⟨_,rfl⟩;rw [← hp];refine nmA1 ?_;intro wl hb hg;rw [← hp] at hb;have hS2:(fun wr=>_) wl:=And.intro (HI.out.s.1.g hg) (HI.out.s.2.g hg);obtain ⟨I,e1,h1⟩:=HI.out.fin rfl rfl rfl rfl rfl hg hp hb;subst e1;have HE:=lh h1;clear hg hb hp h1 HI;refine hK.out _ _ (.inl (fun _=>hS2)) ?_;replace hS:=hS2;clear hK K hS2;try simp only [zz]
     refine pM 16 ?_;simp only [zz];refine pM 17 ?_;simp only [zz];refine dM ?_ _;go_wp2_with fail
     go_ret2;exact ⟨I,rfl,HE.out⟩
   ·skip;have hmm:=HMM.out;go_simp;clear hmm;obtain ⟨lm,wl,e1,e2,hI⟩:=HI.out.mk' 3 (.inl ⟨rfl,rfl⟩);rw [e1,e2];replace HI:=lh hI;have hS2:=hI.s;clear hI e1 e2;refine hK.out _ _ (.inl (fun _=>hS2)) ?_;replace hS:=hS2;clear hK K hS2;try simp only [zz]
    refine rM 5 fun K hK=>?_;go_simp;refine HI.out.vof.mono ?_;rintro e wl ⟨vb,rfl,hI⟩;replace HI:=lh hI;have hS2:=hI.s;clear hI;refine hK.out _ _ (.inl (fun _=>hS2)) ?_;replace hS:=hS2;clear hK K hS2;try simp only [zz]
    refine rM 10 fun K hK=>?_;go_simp;refine HI.out.opn.mono ?_;rintro e wl ⟨v,rfl,hI⟩;replace HI:=lh hI;have hS2:=hI.s;clear hI;refine hK.out _ _ (.inl (fun _=>hS2)) ?_;replace hS:=hS2;clear hK K hS2;try simp only [zz]
    refine rM 11 fun K hK=>?_;refine wp_store_any (HI.out.m _ rfl rfl) _ _ _ 74 (.inr rfl) Tryz.underlying27 Tryz.underlying74 (by unfold maxLen;omega) (k:=1) (by unfold inU;omega) v rfl rfl rfl ?_;intro wl hm hg;have hI:=HI.out.sto rfl rfl hm hg;replace HI:=lh hI;have hS2:=hI.s;clear hI hm hg;refine hK.out _ _ (.inl (fun _=>hS2)) ?_;replace hS:=hS2;clear hK K hS2;refine pM 12 ?_;simp only [zz];refine pM 14 ?_;simp only [zz];refine rM 15 fun K hK=>?_;go_simp;obtain ⟨p,hp⟩ : ∃ p,p=wl.heap.size:=⟨_,rfl⟩;rw [← hp];refine nmA1 ?_;intro wl hb hg;rw [← hp] at hb;have hS2:(fun wr=>_) wl:=And.intro (HI.out.s.1.g hg) (HI.out.s.2.g hg);obtain ⟨I,e1,h1⟩:=HI.out.fin rfl rfl rfl rfl rfl hg hp hb;subst e1;have HE:=lh h1;clear hg hb hp h1 HI;refine hK.out _ _ (.inl (fun _=>hS2)) ?_;replace hS:=hS2;clear hK K hS2;try simp only [zz]
    refine pM 16 ?_;simp only [zz];refine pM 17 ?_;simp only [zz];refine dM ?_ _;go_wp2_with fail
    go_ret2;exact ⟨I,rfl,HE.out⟩
  ·skip;have hmm:=HMM.out;go_simp;clear hmm;obtain ⟨lm,wl,e1,e2,hI⟩:=HI.out.mk' 3 (.inl ⟨rfl,rfl⟩);rw [e1,e2];replace HI:=lh hI;have hS2:=hI.s;clear hI e1 e2;refine hK.out _ _ (.inl (fun _=>hS2)) ?_;replace hS:=hS2;clear hK K hS2;try simp only [zz]
   refine rM 1 fun K hK=>?_;go_simp;refine HI.out.tof.mono ?_;rintro e wl ⟨tp,tb,rfl,hI⟩;replace HI:=lh hI;have hS2:=hI.s;clear hI;refine hK.out _ _ (.inl (fun _=>hS2)) ?_;replace hS:=hS2;clear hK K hS2;try simp only [zz]
   refine rM 5 fun K hK=>?_;go_simp;refine HI.out.vof.mono ?_;rintro e wl ⟨vb,rfl,hI⟩;replace HI:=lh hI;have hS2:=hI.s;clear hI;refine hK.out _ _ (.inl (fun _=>hS2)) ?_;replace hS:=hS2;clear hK K hS2;try simp only [zz]
   refine rM 10 fun K hK=>?_;go_simp;refine HI.out.opn.mono ?_;rintro e wl ⟨v,rfl,hI⟩;replace HI:=lh hI;have hS2:=hI.s;clear hI;refine hK.out _ _ (.inl (fun _=>hS2)) ?_;replace hS:=hS2;clear hK K hS2;try simp only [zz]
   refine rM 11 fun K hK=>?_;refine wp_store_any (HI.out.m _ rfl rfl) _ _ _ 74 (.inr rfl) Tryz.underlying27 Tryz.underlying74 (by unfold maxLen;omega) (k:=1) (by unfold inU;omega) v rfl rfl rfl ?_;intro wl hm hg;have hI:=HI.out.sto rfl rfl hm hg;replace HI:=lh hI;have hS2:=hI.s;clear hI hm hg;refine hK.out _ _ (.inl (fun _=>hS2)) ?_;replace hS:=hS2;clear hK K hS2;refine pM 12 ?_;simp only [zz];refine pM 14 ?_;simp only [zz];refine rM 15 fun K hK=>?_;go_simp;obtain ⟨p,hp⟩ : ∃ p,p=wl.heap.size:=⟨_,rfl⟩;rw [← hp];refine nmA1 ?_;intro wl hb hg;rw [← hp] at hb;have hS2:(fun wr=>_) wl:=And.intro (HI.out.s.1.g hg) (HI.out.s.2.g hg);obtain ⟨I,e1,h1⟩:=HI.out.fin rfl rfl rfl rfl rfl hg hp hb;subst e1;have HE:=lh h1;clear hg hb hp h1 HI;refine hK.out _ _ (.inl (fun _=>hS2)) ?_;replace hS:=hS2;clear hK K hS2;try simp only [zz]
   refine pM 16 ?_;simp only [zz];refine pM 17 ?_;simp only [zz];refine dM ?_ _;go_wp2_with fail
   go_ret2;exact ⟨I,rfl,HE.out⟩
end
end Go.Proofs.YtndfpmboanohcaaGreatDoor
