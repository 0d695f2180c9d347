/- slices.Sort at uint64: pdqsort and Sort itself. -/
import Derived.Test.YtndfpmboanohcaaGreatDoorSrt2
import Derived.Test.YtndfpmboanohcaaGreatDoorSrt3
import Derived.Test.YtndfpmboanohcaaGreatDoorSrt4ToSrt5
import Derived.Lib.OwnBridge
import Derived.Lib.AppendIntMem
namespace Go.Proofs.SrtU
open Go.RowKit Go.Sort
structure Callees13U:Prop where
 ins : ∀ (blk off cap a b:Nat) (d:Array Int) (w:World),Holds encU w blk off d→a≤b→b≤d.size→d.size < 4611686018427387904 →
  Calls Tryz.prog 93 #[.slice (some ⟨blk,off,none⟩) d.size cap,.int .i64 a,.int .i64 b] w fun e w'=>e=.returned (.tuple #[])∧∃ n,w'=putRow encU (Sort.ahead w n) blk off (insertionSort ltInt d a b)
 brk : ∀ (blk off cap a b:Nat) (d:Array Int) (w:World),Holds encU w blk off d→blk < w.heap.size→a≤b→b≤d.size→d.size < 4611686018427387904 →
  Calls Tryz.prog 95 #[.slice (some ⟨blk,off,none⟩) d.size cap,.int .i64 a,.int .i64 b] w fun e w'=>e=.returned (.tuple #[])∧∃ n os,w'=grow (putRow encU (Sort.ahead w n) blk off (breakPatterns d a b)) os
 piv : ∀ (blk off cap a b:Nat) (d:Array Int) (w:World),Holds encU w blk off d→blk < w.heap.size→a < b→b≤d.size→d.size < 4611686018427387904 →
  Calls Tryz.prog 96 #[.slice (some ⟨blk,off,none⟩) d.size cap,.int .i64 a,.int .i64 b] w fun e w'=>e=.returned (.tuple #[.int .i64 (choosePivot ltInt d a b).1,.int .i64 (hintCode (choosePivot ltInt d a b).2)])∧∃ n os,w'=grow (Sort.ahead w n) os
 par : ∀ (blk off cap a b:Nat) (d:Array Int) (w:World),Holds encU w blk off d→a < b→b≤d.size→d.size < 4611686018427387904 →
  Calls Tryz.prog 98 #[.slice (some ⟨blk,off,none⟩) d.size cap,.int .i64 a,.int .i64 b] w fun e w'=>e=.returned (.bool (partialInsertionSort ltInt d a b).2)∧∃ n,w'=putRow encU (Sort.ahead w n) blk off (partialInsertionSort ltInt d a b).1
 peq : ∀ (blk off cap a b pivot:Nat) (d:Array Int) (w:World),Holds encU w blk off d→a≤pivot→pivot < b→b≤d.size→d.size < 4611686018427387904 →
  Calls Tryz.prog 100 #[.slice (some ⟨blk,off,none⟩) d.size cap,.int .i64 a,.int .i64 b,.int .i64 pivot] w fun e w'=>e=.returned (.int .i64 (partitionEqual ltInt d a b pivot).1)∧∃ n,w'=putRow encU (Sort.ahead w n) blk off (partitionEqual ltInt d a b pivot).2
 prt : ∀ (blk off cap a b pivot:Nat) (d:Array Int) (w:World),Holds encU w blk off d→a≤pivot→pivot < b→b≤d.size→d.size < 4611686018427387904 →
  Calls Tryz.prog 101 #[.slice (some ⟨blk,off,none⟩) d.size cap,.int .i64 a,.int .i64 b,.int .i64 pivot] w fun e w'=>e=.returned (.tuple #[.int .i64 (partition ltInt d a b pivot).1,.bool (partition ltInt d a b pivot).2.1])∧∃ n,w'=putRow encU (Sort.ahead w n) blk off (partition ltInt d a b pivot).2.2
set_option maxHeartbeats 6400000 in
set_option maxRecDepth 1000000 in
theorem su_pdqsort_int (C:Callees13U) (S:Plain13) : ∀ (N blk off cap a b limit:Nat) (d:Array Int) (w:World),b - a < N→Holds encU w blk off d→blk < w.heap.size→a≤b→b≤d.size→d.size < 4611686018427387904→limit < 4611686018427387904→Below ltInt a b d →
  Calls Tryz.prog 88 #[.slice (some ⟨blk,off,none⟩) d.size cap,.int .i64 a,.int .i64 b,.int .i64 limit] w fun e w'=>e=.returned (.tuple #[])∧At encU w blk off (pdq ltInt d a b limit true true) w':=by
 intro N;induction N with
 | zero=>intro _ _ _ _ _ _ _ _ h;exact absurd h (Nat.not_lt_zero _)
 | succ N ih=>
  intro blk off cap a b limit d w hN hH hblk hab hb hsz hlimit hBel0;go_enter Tryz.func88,Tryz.ntmps88
  go_wp2
  go_loopg [1,2,3,8,9] (b - a) (fun k s1 s2 s3 s8 s9 wr=>∃ (a' b' lim:Nat) (wb wp:Bool) (dk:Array Int),s1=.int .i64 a'∧s2=.int .i64 b'∧s3=.int .i64 lim∧s8=.bool wb∧s9=.bool wp ∧
   a'≤b'∧b'≤d.size∧b' - a'≤k∧k≤b - a∧lim≤limit∧dk.size=d.size∧Below ltInt a' b' dk∧At encU w blk off dk wr∧pdq ltInt dk a' b' lim wb wp=pdq ltInt d a b limit true true)
  case atStart=>exact ⟨a,b,limit,true,true,d,rfl,rfl,rfl,rfl,rfl,hab,hb,Nat.le_refl _,Nat.le_refl _,Nat.le_refl _,rfl,hBel0,At.refl hH,rfl⟩
  case round=>
   obtain ⟨a',b',lim,wb,wp,dk,rfl,rfl,rfl,rfl,rfl,hab',hb',hk,hkN,hlim,hds,hBel,hAt,heq⟩:=hrel;obtain ⟨hHk,hblk'⟩:=hAt.holds hH hds hblk;have A:Aside (pdq ltInt dk a' b' lim wb wp=pdq ltInt d a b limit true true):=heq;clear heq;by_cases h12:b' - a'≤12
   ·
    have h12z:(b':Int) - (a':Int)≤12:=by omega
    have hc:=C.ins blk off cap a' b' dk wr hHk hab' (by omega) (by omega);rw [hds] at hc;go_wp2_with (go_at_call 93;refine hc.mono ?_;rintro e w1 ⟨rfl,hw1⟩)
    (try simp only [Exit.inBlock,Exit.then]);refine bodyPost_ret (results_none rfl _ _ _) rfl ?_
    refine ⟨rfl,?_⟩;rw [← A.out,pdq_small h12];exact hAt.step hblk (S.ins S.swo dk a' b' hab' (by omega)).1.1 hw1
   ·have h12z:¬ ((b':Int) - (a':Int)≤12):=by omega
    by_cases hl0:lim=0
    ·
     subst hl0;have hc:=su_heapSort_int blk off d.size cap dk hds a' b' wr hHk hab' (by omega) (by omega);go_wp2_with (go_at_call 94;refine hc.mono ?_;rintro e w1 ⟨rfl,hw1⟩)
     (try simp only [Exit.inBlock,Exit.then]);refine bodyPost_ret (results_none rfl _ _ _) rfl ?_
     refine ⟨rfl,?_⟩;rw [← A.out,pdq_heap h12 rfl];exact hAt.step hblk (heapSort_holds S.swo dk a' b' hab' (by omega)).1.1 hw1
    ·have hl0z:¬ ((lim:Int)=0):=by omega
     obtain ⟨s1,B1,hc1,s2,B2,hpv,s3,B3⟩:=rd_facts (limit:=lim) (wb:=wb) (wp:=wp) S.swo S.par reverseRange_holds (show a' < b' by omega) (show b'≤dk.size by omega) hBel;go_upto_if 35 with fail
     go_cut [3] from 19 (fun s3 wc=>s3=.int .i64 (rd ltInt dk a' b' lim wb wp).lim∧At encU w blk off (rd ltInt dk a' b' lim wb wp).d1 wc)
     case first=>
      cases wb
      ·have hc:=C.brk blk off cap a' b' dk wr hHk hblk' hab' (by omega) (by omega);rw [hds] at hc;go_wp2_with (go_at_call 95;refine hc.mono ?_;rintro e w1 ⟨rfl,hw1⟩)
       go_meet
       case rel=>
        refine ⟨?_,hAt.stepG hblk s1 hw1⟩;show Value.int .i64 ((lim:Int) - 1)=Value.int .i64 ((lim - 1:Nat):Int)
        congr 1
        omega
      ·go_wp2_with fail
       go_meet
       case rel=>exact ⟨rfl,hAt⟩
     case rest=>
      obtain ⟨rfl,hAt1⟩:=hcut;obtain ⟨hH1,hblk1⟩:=hAt1.holds hH (s1.trans hds) hblk;have hc17:Calls Tryz.prog 96 #[.slice (some ⟨blk,off,none⟩) d.size cap,.int .i64 a',.int .i64 b'] wc fun e w'=>e=.returned (.tuple #[.int .i64 (rd ltInt dk a' b' lim wb wp).c.1,.int .i64 (hintCode (rd ltInt dk a' b' lim wb wp).c.2)])∧∃ n os,w'=grow (Sort.ahead wc n) os:=by
       have:=C.piv blk off cap a' b' (rd ltInt dk a' b' lim wb wp).d1 wc hH1 hblk1 (by omega) (by omega) (by omega);rw [s1,hds] at this;exact this
      go_upto_if 50 with (go_at_call 96;refine hc17.mono ?_;rintro e w2 ⟨rfl,hw2⟩)
      have hAt2:At encU w blk off (rd ltInt dk a' b' lim wb wp).d1 w2:=hAt1.same hH (s1.trans hds) hblk hw2;obtain ⟨hH2,hblk2⟩:=hAt2.holds hH (s1.trans hds) hblk
      go_cut [11,12] from 19 (fun s11 s12 wc=>s11=.int .i64 (rd ltInt dk a' b' lim wb wp).pivot∧s12=.int .i64 (hintCode (rd ltInt dk a' b' lim wb wp).hint)∧At encU w blk off (rd ltInt dk a' b' lim wb wp).d2 wc)
      case first=>
       by_cases hh:(rd ltInt dk a' b' lim wb wp).c.2=.decreasing
       ·have hcode:hintCode (rd ltInt dk a' b' lim wb wp).c.2=2:=by rw [hh];rfl
        obtain ⟨e2,epv,eht⟩:=rd_dec hh;have hc18:=su_reverseRange_int blk off cap (rd ltInt dk a' b' lim wb wp).d1 a' b' w2 hH2 hab' (by omega) (by omega);rw [s1,hds] at hc18;go_wp2_with (go_at_call 97;refine hc18.mono ?_;rintro e w3 ⟨rfl,hw3⟩)
        go_meet
        case rel=>
         refine ⟨?_,by rw [eht];rfl,by rw [e2];exact hAt2.step hblk (by rw [← e2,s2,s1]) hw3⟩;rw [epv]
         congr 1
         omega
       ·have hcode:¬ (hintCode (rd ltInt dk a' b' lim wb wp).c.2=2):=fun h=>hh (hintCode_two h);obtain ⟨e2,epv,eht⟩:=rd_not hh;go_wp2_with fail
        go_meet
        case rel=>exact ⟨by rw [epv],by rw [eht],by rw [e2];exact hAt2⟩
      case rest=>
       obtain ⟨rfl,rfl,hAt3⟩:=hcut;obtain ⟨hH3,hblk3⟩:=hAt3.holds hH (s2.trans hds) hblk;go_upto_region 15 with fail
       go_cut [12,68] from 19 (fun s12 s68 wx=>s12=.int .i64 (hintCode (rd ltInt dk a' b' lim wb wp).hint)∧s68=.bool (wb && wp && decide ((rd ltInt dk a' b' lim wb wp).hint=.increasing))∧wx=wc)
       case first=>
        cases wb <;> cases wp <;> cases hh3:(rd ltInt dk a' b' lim _ _).hint <;>
         (have hcode3:=congrArg hintCode hh3
          simp only [hintCode] at hcode3;go_wp2_with fail
          go_meet
          exact ⟨by simp [hh3,hintCode],by simp [hh3,hintCode],rfl⟩)
       case rest=>
        obtain ⟨rfl,rfl,rfl⟩:=hcut;go_upto_if 68 with fail
        go_cut [] from 19 (fun wx=>(rd ltInt dk a' b' lim wb wp).pi.2=false∧At encU w blk off (rd ltInt dk a' b' lim wb wp).pi.1 wx)
        case first=>
         cases h68:(wb && wp && decide ((rd ltInt dk a' b' lim wb wp).hint=.increasing))
         ·have epi:=rd_pi_no h68;go_wp2_with fail
          go_meet
          case rel=>exact ⟨by rw [epi],by rw [epi];exact hAt3⟩
         ·have epi:=rd_pi_yes h68;have hc19:=C.par blk off cap a' b' (rd ltInt dk a' b' lim wb wp).d2 wc hH3 (by omega) (by omega) (by omega);rw [s2,hds,← epi] at hc19;go_wp2_with (go_at_call 98;refine hc19.mono ?_;rintro e w4 ⟨rfl,hw4⟩)
          all_goals first
           | (have hp2:(rd ltInt dk a' b' lim wb wp).pi.2=false:=by rw [epi];assumption
              go_meet
              exact ⟨hp2,hAt3.step hblk (by rw [s3,s2]) hw4⟩)
           | (have hp2:(rd ltInt dk a' b' lim wb wp).pi.2=true:=by rw [epi];assumption
              (try simp only [Exit.inBlock,Exit.then]);refine bodyPost_ret (results_none rfl _ _ _) rfl ?_
              refine ⟨rfl,?_⟩;rw [← A.out,pdq_done h12 hl0 hp2];exact hAt3.step hblk (by rw [s3,s2]) hw4)
        case rest=>
         obtain ⟨hp2,hAt5⟩:=hcut;obtain ⟨hH5,hblk5⟩:=hAt5.holds hH (s3.trans hds) hblk;have hcw : ∀ t,t < d.size→wc.cell? ⟨blk,off+t,none⟩=some (.int .u64 (rd ltInt dk a' b' lim wb wp).pi.1[t]!):=fun t ht=>(hH5 t (by omega)).1;have hfw : ∀ t,t < d.size→wc.frozen? ⟨blk,off+t,none⟩=false:=fun t ht=>(hH5 t (by omega)).2;go_upto_region 17 with fail
         go_cut [87] from 19 (fun s87 wx=>s87=.bool (decide (a' > 0) && !ltInt (rd ltInt dk a' b' lim wb wp).pi.1[a' - 1]! (rd ltInt dk a' b' lim wb wp).pi.1[(rd ltInt dk a' b' lim wb wp).pivot]!)∧At encU w blk off (rd ltInt dk a' b' lim wb wp).pi.1 wx)
         case first=>
          rcases Nat.eq_zero_or_pos a' with ha0 | ha0
          ·have ha0z:decide ((a':Int) > 0)=false:=decide_eq_false (by omega);go_big_quiet (first | (go_at_call 99;refine Calls.quiet_of_same (su_cmp_Less_int _ _ _)))
           go_wp2_with fail
           go_meet
           case rel=>exact ⟨by simp [ha0],hAt5.ahead nq⟩
          ·have ha0z:(a':Int) > 0:=by omega
           go_big_quiet (first | (go_at_call 99;refine Calls.quiet_of_same (su_cmp_Less_int _ _ _)))
           go_wp2_with fail
           go_meet
           case rel=>exact ⟨by simp [ha0],hAt5.ahead nq⟩
         case rest=>
          obtain ⟨rfl,hAt6⟩:=hcut;obtain ⟨hH6,hblk6⟩:=hAt6.holds hH (s3.trans hds) hblk;clear hcw hfw;cases h87:(decide (a' > 0) && !ltInt (rd ltInt dk a' b' lim wb wp).pi.1[a' - 1]! (rd ltInt dk a' b' lim wb wp).pi.1[(rd ltInt dk a' b' lim wb wp).pivot]!)
          ·
           obtain ⟨mid,ap,d4,hx⟩ : ∃ mid ap d4,partition ltInt (rd ltInt dk a' b' lim wb wp).pi.1 a' b' (rd ltInt dk a' b' lim wb wp).pivot=(mid,ap,d4):=⟨(partition ltInt (rd ltInt dk a' b' lim wb wp).pi.1 a' b' (rd ltInt dk a' b' lim wb wp).pivot).1,(partition ltInt (rd ltInt dk a' b' lim wb wp).pi.1 a' b' (rd ltInt dk a' b' lim wb wp).pivot).2.1,(partition ltInt (rd ltInt dk a' b' lim wb wp).pi.1 a' b' (rd ltInt dk a' b' lim wb wp).pivot).2.2,rfl⟩;obtain ⟨r1,r2,r3,r4,r5,r6,r7⟩:=round_part S.swo S.prt hpv.1 hpv.2 (show b'≤(rd ltInt dk a' b' lim wb wp).pi.1.size by omega) B3 hx;have hc22:=C.prt blk off cap a' b' (rd ltInt dk a' b' lim wb wp).pivot (rd ltInt dk a' b' lim wb wp).pi.1 wc hH6 hpv.1 hpv.2 (by omega) (by omega);rw [s3,hds,hx] at hc22;have X:Aside (partition ltInt (rd ltInt dk a' b' lim wb wp).pi.1 a' b' (rd ltInt dk a' b' lim wb wp).pivot=(mid,ap,d4)):=hx;clear hx;go_upto_if 113 with (go_at_call 101;refine hc22.mono ?_;rintro e w7 ⟨rfl,hw7⟩)
           have hx:=X.out;have hAt7:At encU w blk off d4 w7:=hAt6.step hblk r3 hw7;obtain ⟨hH7,hblk7⟩:=hAt7.holds hH (r3.trans (s3.trans hds)) hblk;by_cases h4:mid - a' < b' - mid
           ·have h4z:(mid:Int) - (a':Int) < (b':Int) - (mid:Int):=by omega
            have hih:=ih blk off cap a' mid (rd ltInt dk a' b' lim wb wp).lim d4 w7 (by omega) hH7 hblk7 (by omega) (by omega) (by omega) (Nat.lt_of_le_of_lt (Nat.le_trans rd_lim_le hlim) hlimit) r4;rw [r3,s3,hds] at hih;obtain ⟨pL,sL⟩:=S.pdq S.swo d4 a' mid (rd ltInt dk a' b' lim wb wp).lim true true (by omega) (by omega) r4;go_wp2_with (go_at_call 88;refine hih.mono ?_;rintro e w8 ⟨rfl,hw8⟩)
            go_roundg (b' - (mid+1))
            case measure=>omega
            case rel=>
                     refine ⟨mid+1,b',(rd ltInt dk a' b' lim wb wp).lim,decide (mid - a' ≥ (b' - a') / 8),ap,pdq ltInt d4 a' mid (rd ltInt dk a' b' lim wb wp).lim true true,by simp,rfl,rfl,?_,rfl,by omega,by omega,Nat.le_refl _,by omega,Nat.le_trans rd_lim_le hlim,by rw [pL.1,r3,s3,hds],(r6 _ pL sL).1,hAt7.stepG hblk pL.1 hw8,?_⟩
                     ·exact congrArg Value.bool (eighth (by omega) (by omega))
                     ·rw [← A.out,pdq_left h12 hl0 hp2 h87 (by rw [hx];exact ⟨r1,r2⟩) (by rw [hx];exact h4),hx]
           ·have h4z:¬ ((mid:Int) - (a':Int) < (b':Int) - (mid:Int)):=by omega
            have hih:=ih blk off cap (mid+1) b' (rd ltInt dk a' b' lim wb wp).lim d4 w7 (by omega) hH7 hblk7 (by omega) (by omega) (by omega) (Nat.lt_of_le_of_lt (Nat.le_trans rd_lim_le hlim) hlimit) r5;rw [r3,s3,hds] at hih;obtain ⟨pL,sL⟩:=S.pdq S.swo d4 (mid+1) b' (rd ltInt dk a' b' lim wb wp).lim true true (by omega) (by omega) r5;go_wp2_with (go_at_call 88;refine hih.mono ?_;rintro e w8 ⟨rfl,hw8⟩)
            go_roundg (mid - a')
            case measure=>omega
            case rel=>
                     refine ⟨a',mid,(rd ltInt dk a' b' lim wb wp).lim,decide (b' - mid ≥ (b' - a') / 8),ap,pdq ltInt d4 (mid+1) b' (rd ltInt dk a' b' lim wb wp).lim true true,rfl,rfl,rfl,?_,rfl,by omega,by omega,Nat.le_refl _,by omega,Nat.le_trans rd_lim_le hlim,by rw [pL.1,r3,s3,hds],(r7 _ pL sL).1,hAt7.stepG hblk pL.1 hw8,?_⟩
                     ·exact congrArg Value.bool (eighth (by omega) (by omega))
                     ·rw [← A.out,pdq_right h12 hl0 hp2 h87 (by rw [hx];exact ⟨r1,r2⟩) (by rw [hx];exact h4),hx]
          ·
           have h87':=h87;simp only [Bool.and_eq_true,decide_eq_true_eq,Bool.not_eq_true'] at h87';obtain ⟨mid,d4,hx⟩ : ∃ mid d4,partitionEqual ltInt (rd ltInt dk a' b' lim wb wp).pi.1 a' b' (rd ltInt dk a' b' lim wb wp).pivot=(mid,d4):=⟨(partitionEqual ltInt (rd ltInt dk a' b' lim wb wp).pi.1 a' b' (rd ltInt dk a' b' lim wb wp).pivot).1,(partitionEqual ltInt (rd ltInt dk a' b' lim wb wp).pi.1 a' b' (rd ltInt dk a' b' lim wb wp).pivot).2,rfl⟩;obtain ⟨r1,r2,r3,r4,_⟩:=round_eq S.swo S.peq h87'.1 hpv.1 hpv.2 (show b'≤(rd ltInt dk a' b' lim wb wp).pi.1.size by omega) B3 h87'.2 hx;have hc21:=C.peq blk off cap a' b' (rd ltInt dk a' b' lim wb wp).pivot (rd ltInt dk a' b' lim wb wp).pi.1 wc hH6 hpv.1 hpv.2 (by omega) (by omega);rw [s3,hds,hx] at hc21;have X:Aside (partitionEqual ltInt (rd ltInt dk a' b' lim wb wp).pi.1 a' b' (rd ltInt dk a' b' lim wb wp).pivot=(mid,d4)):=hx;clear hx;go_wp2_with (go_at_call 100;refine hc21.mono ?_;rintro e w7 ⟨rfl,hw7⟩)
           go_roundg (b' - mid)
           case measure=>omega
           case rel=>
                    have hx:=X.out;exact ⟨mid,b',(rd ltInt dk a' b' lim wb wp).lim,wb,wp,d4,rfl,rfl,rfl,rfl,rfl,r2,hb',Nat.le_refl _,by omega,Nat.le_trans rd_lim_le hlim,by rw [r3,s3,hds],r4,hAt6.step hblk r3 hw7,by rw [← A.out,pdq_eq h12 hl0 hp2 h87 (by rw [hx];exact ⟨r1,r2⟩),hx]⟩
def pdqWalkU:Prop:=∀ (blk off cap a b limit:Nat) (d:Array Int) (w:World),Holds (Value.int .u64) w blk off d→blk < w.heap.size→a≤b→b≤d.size→d.size < 4611686018427387904→limit < 4611686018427387904→Below ltInt a b d →
 Calls Tryz.prog 88 #[.slice (some ⟨blk,off,none⟩) d.size cap,.int .i64 a,.int .i64 b,.int .i64 limit] w fun e w'=>
  e=.returned (.tuple #[])∧∃ n os,w'=grow (putRow (Value.int .u64) (Sort.ahead w n) blk off (Sort.pdq ltInt d a b limit true true)) os
set_option maxRecDepth 100000 in
theorem su_Sort_int (hpdq:pdqWalkU) (blk off cap:Nat) (d:Array Int) (w:World) (hH:Holds (Value.int .u64) w blk off d) (hblk:blk < w.heap.size) (hsz:d.size < 4611686018427387904) :
  Calls Tryz.prog 80 #[.slice (some ⟨blk,off,none⟩) d.size cap] w fun e w'=>e=.returned (.tuple #[])∧∃ n os,w'=grow (putRow (Value.int .u64) (Sort.ahead w n) blk off (Sort.sort ltInt d)) os:=by
 have HH:Hid (Holds (Value.int .u64) w blk off d):=hH;clear hH;have hLen : ∀ w,Calls Tryz.prog 89 #[.int .u64 (d.size:Int)] w fun e w'=>e=.returned (.int .i64 (bitsLen d.size:Nat))∧w'=w:=fun w=>by
  have h:=su_bits_Len (d.size:Int) w (by omega) (by omega)
  rwa [Int.toNat_natCast,bitLen_eq _ (by omega)] at h
 have hk:bitsLen d.size≤62:=(bitsLen_le_iff d.size 62).2 (by omega);go_enter Tryz.func80,Tryz.ntmps80
 go_wp2_with (first
  | (go_at_call 89;refine (hLen _).mono ?_;rintro e w' ⟨rfl,rfl⟩)
  | (go_at_call 88;refine (hpdq blk off cap 0 d.size (bitsLen d.size) d _ (by exact HH.out) (by exact hblk) (Nat.zero_le _) (Nat.le_refl _) hsz (by omega) (Or.inl rfl)).mono ?_;rintro e w' ⟨rfl,n,os,rfl⟩))
 go_end0
 exact ⟨rfl,n,os,rfl⟩
theorem callees13U:Callees13U where
 ins:=su_insertionSort_int
 brk:=su_breakPatterns_int
 piv:=su_choosePivot_int
 par:=su_partialInsertionSort_int
 peq:=su_partitionEqualOrdered_int
 prt:=su_partitionOrdered_int
theorem plain13U:Plain13 where
 swo:=swo_ltInt
 ins:=insertionSort_holds
 par:=partialInsertionSort_holds
 prt:=partition_holds _
 peq:=partitionEqual_holds _
 pdq:=pdq_sorts _
theorem pdq_walkU:pdqWalkU:=fun blk off cap a b limit d w hH hb hab hbd hsz hl hB=>
 su_pdqsort_int callees13U plain13U (b - a+1) blk off cap a b limit d w (by omega) hH hb hab hbd hsz hl hB
theorem sortU_calls (blk off cap:Nat) (zs:List Int) (w:World) (hH:Holds (Value.int .u64) w blk off zs.toArray) (hblk:blk < w.heap.size) (hsz:zs.length < 4611686018427387904) :
  Calls Tryz.prog 80 #[.slice (some ⟨blk,off,none⟩) zs.length cap] w fun e w'=>
   e=.returned (.tuple #[])∧∃ n os,w'=grow (putRow (Value.int .u64) (Sort.ahead w n) blk off (zs.mergeSort fun x y=>decide (x≤y)).toArray) os:=by
 have h:=su_Sort_int pdq_walkU blk off cap zs.toArray w hH hblk (by simpa using hsz);rw [show Sort.sort ltInt zs.toArray=(zs.mergeSort fun x y=>decide (x≤y)).toArray by rw [← sortInt zs]] at h
 simpa using h
end Go.Proofs.SrtU
namespace Go.Proofs.YtndfpmboanohcaaGreatDoor
open Go.RowKit Go.Maps SkipPure
theorem grownBy_sorted {α:Type} [Inhabited α] {enc:α→Value} {w:World} {g n:Nat} {os:Array Obj} (d:Array α):w.grownBy (Sort.grow (Sort.putRow enc (Sort.ahead w n) g 0 d) os) (some g):=by
 refine ⟨rfl,rfl,rfl,by simp,fun k hk hne=>?_⟩;rw [Sort.heap_grow_old _ _ (by simpa using hk)];have : g≠k:=fun e=>hne (by rw [e]);simp [Sort.putRow,Sort.mapBlock,Sort.ahead,Array.getElem?_modify,this]
theorem sorted_pairwise (xs:List Int):(xs.mergeSort fun x y=>decide (x≤y)).Pairwise (·≤·):=
 (List.pairwise_mergeSort (le:=fun x y=>decide (x≤y)) (fun _ _ _=>by simp;omega) (fun _ _=>by simp;omega) xs).imp fun h=>by simpa using h
theorem sortUpTo_any (N:Nat) (hN:N≤1000000):SortUpTo N:=fun w B g c xs h1 hx hrow=>by
 obtain ⟨g',cap,hv,hB,hlt,hn,hm,_,hH⟩:=Lib.holds_of_ownsRow (enc:=encU) hrow (by simp)
 injection hv with e1 _ e3
 injection e1 with e1
 injection e1 with e1
 subst e1;subst e3;refine (SrtU.sortU_calls g 0 c xs w hH hlt (by omega)).mono ?_;rintro e w' ⟨rfl,n,os,rfl⟩;have hl:(xs.mergeSort fun x y=>decide (x≤y)).length=xs.length:=List.length_mergeSort ..;refine ⟨rfl,_,List.mergeSort_perm _ _,sorted_pairwise xs,?_,grownBy_sorted _⟩;have h:=Lib.ownsRow_putRow (enc:=encU) (q:=n) (ys:=xs.mergeSort fun x y=>decide (x≤y)) hrow hl (Nat.le_refl _);rw [List.take_of_length_le (by omega)] at h;exact Lib.ownsRow_grow h 0 os
end Go.Proofs.YtndfpmboanohcaaGreatDoor
namespace Go.Proofs.YtndfpmboanohcaaGreatDoor
set_option maxRecDepth 100000
open Go.RowKit Go.Maps SkipPure
def Blk (w:World) (q:Nat) (cs:Array Value) (T:TypeId):Prop:=w.heap[q]? = some (.cells cs T (0,0))
section
variable {w w':World} {q:Nat} {cs:Array Value} {T:TypeId}
theorem Blk.lt (h:Blk w q cs T):q < w.heap.size:=(Array.getElem?_eq_some_iff.1 h).1
theorem Blk.kept {row:Option Nat} (h:Blk w q cs T) (hg:w.grownBy w' row) (hr:row≠some q):Blk w' q cs T:=by
 have hl:=h.lt;unfold Blk at *;rw [hg.block q hl (fun e=>hr e.symm)];exact h
theorem Blk.g (h:Blk w q cs T) (hg:w.grownBy w' none):Blk w' q cs T:=h.kept hg (by simp)
theorem Blk.alloc (w:World) (cs:Array Value) (T:TypeId):Blk (w.alloc (.cells cs T)) w.heap.size cs T:=by
 unfold Blk
 simpa using (MapKept.heap_alloc w (.cells cs T)).1
theorem Blk.at (h:Blk w q cs T) (i:Nat):w.cell? ⟨q,i,none⟩=cs[i]?:=cel h i
theorem Blk.fr (h:Blk w q cs T) (i:Nat):w.frozen? ⟨q,i,none⟩=false:=frz h i
theorem Blk.set (h:Blk w q cs T) (i:Nat) (v:Value):Blk (w.setCell ⟨q,i,none⟩ v) q (cs.setIfInBounds i v) T:=heap_setCell_same w q i cs T v h
theorem Blk.drew (h:Blk w q cs T):Blk w.drew q cs T:=h
end
theorem cell_g {w w':World} {a:Addr} {v:Value} (h:w.cell? a=some v) (hg:w.grownBy w' none):w'.cell? a=some v:=hg.cell h (by simp)
structure Chg (S:Nat→Prop) (w w':World):Prop where
 os:w'.os=w.os
 tape:w'.tape=w.tape
 output:w'.output=w.output
 size:w.heap.size≤w'.heap.size
 block : ∀ i,i < w.heap.size→¬ S i→w'.heap[i]? = w.heap[i]?
section
variable {S S':Nat→Prop} {w w' w'':World}
theorem Chg.refl (S:Nat→Prop) (w:World):Chg S w w:=⟨rfl,rfl,rfl,Nat.le_refl _,fun _ _ _=>rfl⟩
theorem Chg.of (h:w.grownBy w' none):Chg S w w':=⟨h.os,h.tape,h.output,h.size,fun i hi _=>h.block i hi (by simp)⟩
theorem Chg.one {b:Nat} (h:w.grownBy w' (some b)) (hb:S b):Chg S w w':=⟨h.os,h.tape,h.output,h.size,fun i hi hn=>h.block i hi (fun e=>hn (by cases e;exact hb))⟩
theorem Chg.new {b:Nat} (h:w.grownBy w' (some b)) (hb:w.heap.size≤b):w.grownBy w' none:=⟨h.os,h.tape,h.output,h.size,fun i hi _=>h.block i hi (fun e=>by cases e;omega)⟩
theorem Chg.trans (h:Chg S w w') (k:Chg S w' w''):Chg S w w'':=
 ⟨k.os.trans h.os,k.tape.trans h.tape,k.output.trans h.output,Nat.le_trans h.size k.size,fun i hi hn=>(k.block i (Nat.lt_of_lt_of_le hi h.size) hn).trans (h.block i hi hn)⟩
theorem Chg.then (h:Chg S w w') (k:Chg S' w' w'') (hs : ∀ i,S' i→S i∨w.heap.size≤i):Chg S w w'':=
 ⟨k.os.trans h.os,k.tape.trans h.tape,k.output.trans h.output,Nat.le_trans h.size k.size,fun i hi hn=>(k.block i (Nat.lt_of_lt_of_le hi h.size) (fun e=>(hs i e).elim hn (fun e=>by omega))).trans (h.block i hi hn)⟩
theorem Chg.mono (h:Chg S w w') (hs : ∀ i,S i→S' i):Chg S' w w':=⟨h.os,h.tape,h.output,h.size,fun i hi hn=>h.block i hi (fun e=>hn (hs i e))⟩
theorem Chg.non (h:Chg S w w') (hs : ∀ i,S i→w.heap.size≤i):w.grownBy w' none:=⟨h.os,h.tape,h.output,h.size,fun i hi _=>h.block i hi (fun e=>by have:=hs i e;omega)⟩
theorem Chg.set {b i:Nat} (v:Value) (h:Chg S w w') (hb:S b∨w.heap.size≤b):Chg S w (w'.setCell ⟨b,i,none⟩ v):=
 h.then (S':=fun j=>j=b) (Chg.one (gset w' b i v) rfl) (fun j e=>by subst e;exact hb)
theorem Chg.blk {q:Nat} {cs:Array Value} {T:TypeId} (h:Chg S w w') (hb:Blk w q cs T) (hq:¬ S q):Blk w' q cs T:=(h.block q hb.lt hq).trans hb
theorem Chg.cell {q i:Nat} {v:Value} (h:Chg S w w') (hc:w.cell? ⟨q,i,none⟩=some v) (hq:¬ S q):w'.cell? ⟨q,i,none⟩=some v:=by
 have hl:q < w.heap.size:=by
  rcases Nat.lt_or_ge q w.heap.size with hl | hl
  ·exact hl
  ·unfold World.cell? at hc;rw [Array.getElem?_eq_none (by exact hl)] at hc;simp at hc
 unfold World.cell? at *;simp only at *;rw [h.block q hl hq];exact hc
theorem Chg.raw {P:Program} {kt:TypeId} {b n:Nat} {F:Int→Option Value} (h:Chg S w w') (hm:RawMap P kt w b n F) (hb:¬ S b):RawMap P kt w' b n F:=by
 have hl:=hm.lt;obtain ⟨D,⟨es,clock,hb2,Ft,hs,hD⟩,h2⟩:=hm;exact ⟨D,⟨es,clock,(h.block b hl hb).trans hb2,Ft,hs,hD⟩,h2⟩
theorem Chg.tree {p b n:Nat} {f:Int} {F:Int→Option (Int×Int×Int)} (h:Chg S w w') (ht:TreeAt w p b n f F) (hp:¬ S p) (hb:¬ S b):TreeAt w' p b n f F:=
 ⟨ht.1,h.blk (q:=p) ht.2.1 hp,h.raw ht.2.2 hb⟩
theorem Chg.votes {g n:Nat} {V:Nat→Ent} (h:Chg S w w') (hv:VAt w g n V) (hb:¬ S g):VAt w' g n V:=by
 have hl:=hv.lt;obtain ⟨cs,hb2,h2,h3⟩:=hv;exact ⟨cs,(h.block g hl hb).trans hb2,h2,h3⟩
end
section
variable {P:Program} {kt et mt:TypeId} {w:World} {b n:Nat} {F:Int→Option Value}
theorem RawMap.store (h:RawMap P kt w b n F) (hk:P.underlying kt=some (.int .u64)) (ht:P.underlying mt=some (.map kt et)) (hn:n < maxLen) {k:Int} (hin:inU k) (v:Value) :
  ∃ w',(Instr.mapUpdate mt (.map (some b)) (.int .u64 k) v).run P w=.ok () w'∧RawMap P kt w' b (if (F k).isSome then n else n+1) (upd F k v)∧w.grownBy w' (some b):=by
 obtain ⟨D,h,hH,hs⟩:=h;obtain ⟨w',hrun,h',hg⟩:=h.update (int_keyed hk) ht hn (keyOf_int_mk hk (kk_wf hin)) (val:=v) (d:=.held v) (ps:=[]) rfl;have h2:=size_put (k:=kk k) (h.tidy (int_keyed hk)) (.held v);have h3:(Lit.int .u64 k)=kk k:=rfl;rw [h3] at h';refine ⟨w',hrun,⟨D.put (kk k) (.held v),?_,holdsAs_put h.isMap hH hin v,?_⟩,hg⟩
 ·obtain ⟨es,clock,e1,e2,e3,e4⟩:=h';refine ⟨es,clock,e1,e2,?_,e4⟩;have e5:Maps.size (D.put (kk k) (.held v))=es.size:=by
   rw [e4];exact length_read es
  rw [← e5,h2];cases hF:F k with
  | none=>rw [(hH k hin).1 hF];simp [hs]
  | some u=>rw [((hH k hin).2 u hF).1];simp [hs]
 ·rw [h2];cases hF:F k with
  | none=>rw [(hH k hin).1 hF];simp [hs]
  | some u=>rw [((hH k hin).2 u hF).1];simp [hs]
def updel (F:Int→Option Value) (k:Int):Int→Option Value:=fun j=>if j=k then none else F j
theorem RawMap.drop (h:RawMap P kt w b n F) (hk:P.underlying kt=some (.int .u64)) (ht:P.underlying mt=some (.map kt et)) {k:Int} (hin:inU k) (ty:TypeId) :
  ∃ w',(Builtin.delete_ #[mt,kt] ty #[.map (some b),.int .u64 k]).run P w=.ok (.tuple #[]) w'∧RawMap P kt w' b (if (F k).isSome then n - 1 else n) (updel F k)∧w.grownBy w' (some b):=by
 obtain ⟨D,h,hH,hs⟩:=h;obtain ⟨w',hrun,h',hg⟩:=h.drop (int_keyed hk) ht (keyOf_int_mk hk (kk_wf hin)) ty;have h2:=size_del (k:=kk k) (h.tidy (int_keyed hk));have h3:(Lit.int .u64 k)=kk k:=rfl;rw [h3] at h';have h5:Maps.size (D.del (kk k))=if (F k).isSome then n - 1 else n:=by
  cases hF:F k with
  | none=>rw [(hH k hin).1 hF] at h2;simp at h2;simp [h2,hs]
  | some u=>rw [((hH k hin).2 u hF).1] at h2;simp at h2;simp;omega
 refine ⟨w',hrun,⟨D.del (kk k),?_,?_,h5⟩,hg.grown⟩
 ·obtain ⟨es,clock,e1,e2,e3,e4⟩:=h';refine ⟨es,clock,e1,e2,?_,e4⟩;have e5:Maps.size (D.del (kk k))=es.size:=by
   rw [e4];exact length_read es
  omega
 ·intro j hj;unfold updel;by_cases e:j=k
  ·subst e;simp only [if_true];exact ⟨fun _=>has_del_same,fun v hv=>by cases hv⟩
  ·rw [if_neg e];have e2:=kk_ne e;obtain ⟨h1,h2⟩:=hH j hj;exact ⟨fun hn=>by rw [has_del_other e2];exact h1 hn,fun v hv=>⟨by rw [has_del_other e2];exact (h2 v hv).1,fun z=>by rw [atKey_del_other e2];exact (h2 v hv).2 z⟩⟩
end
section
variable {P:Program} {w:World} {ops:Array Oper} {rest:List Oper} {o:Oper} {a:Act} {Q:Exit→Act→World→Prop} {kt et:TypeId} {b n:Nat} {F:Int→Option Value}
theorem wpList_store_any (h:RawMap P kt w b n F) (hg:o.guard=none) (m x v:Operand) (t:TypeId) (hop:o.op=Op.mapUpdate t m x v∨o.op=Op.insert t m x v)
  (hk:P.underlying kt=some (.int .u64)) (ht:P.underlying t=some (.map kt et)) (hn:n < maxLen) {k:Int} (hin:inU k) (val:Value)
  (hm:a.eval m=.map (some b)) (hx:a.eval x=.int .u64 k) (hv:a.eval v=val)
  (hK : ∀ w',RawMap P kt w' b (if (F k).isSome then n else n+1) (upd F k val)→w.grownBy w' (some b)→wpList P ops Q rest (a.put o.dst undef) w') :
  wpList P ops Q (o :: rest) a w:=by
 refine wpList_plain hg fun K' hK'=>?_;obtain ⟨w',hrun,r1,r2⟩:=h.store hk ht hn hin val;unfold Oper.wp;rcases hop with hop | hop;all_goals
  simp [execOp,hop,hm,hx,hv,hrun,Result.andThen];exact hK' _ _ (hK w' r1 r2)
theorem wpList_drop_any (h:RawMap P kt w b n F) (hg:o.guard=none) (m x:Operand) (t:TypeId) (hop:o.op=Op.call { callee:=Callee.builtin Builtin.delete,args:=#[m,x],argTypes:=#[t,kt] })
  (hk:P.underlying kt=some (.int .u64)) (ht:P.underlying t=some (.map kt et)) {k:Int} (hin:inU k)
  (hm:a.eval m=.map (some b)) (hx:a.eval x=.int .u64 k)
  (hK : ∀ w',RawMap P kt w' b (if (F k).isSome then n - 1 else n) (updel F k)→w.grownBy w' (some b)→wpList P ops Q rest (a.put o.dst (.tuple #[])) w') :
  wpList P ops Q (o :: rest) a w:=by
 refine wpList_plain hg fun K' hK'=>?_;obtain ⟨w',hrun,r1,r2⟩:=h.drop hk ht hin o.type;unfold Oper.wp;simp [execOp,hop,resolve,invoke,builtin,hm,hx,hrun,Result.andThen];exact hK' _ _ (hK w' r1 r2)
end
end Go.Proofs.YtndfpmboanohcaaGreatDoor
