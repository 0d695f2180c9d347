/- What the store keeps to, over raise: plain law. -/
import Derived.Test.YtndfpmboanohcaaGreatDoorRai
namespace Go.Proofs.YtndfpmboanohcaaGreatDoor
set_option maxRecDepth 100000
open Go.RowKit Go.Maps SkipPure
structure Inv (σ : St) (N : Nat) : Prop where
 wf : StWf σ
 hgt : HgtT σ.f σ.F
 cnt : Cnt σ N
 n : σ.n ≤ N
 hh : ∀ r x, σ.F r = some x → x.2.2 < N
theorem Inv.mono {σ : St} {N M : Nat} (h : Inv σ N) (hm : N ≤ M) : Inv σ M := by
 obtain ⟨h1, h2, ⟨ks, h3, h3'⟩, h4, h5⟩ := h
 exact ⟨h1, h2, ⟨ks, by omega, h3'⟩, by omega, fun r x hx => by have := h5 r x hx; omega⟩
theorem filter_len (p : Int → Bool) : ∀ ks : List Int, (ks.filter p).length + (ks.filter fun r => !p r).length = ks.length
 | [] => rfl
 | k :: ks => by
  have ih := filter_len p ks
  cases h : p k
  ·rw [List.filter_cons_of_neg (by simp [h]), List.filter_cons_of_pos (by simp [h])]
   simp only [List.length_cons]
   omega
  ·rw [List.filter_cons_of_pos (by simp [h]), List.filter_cons_of_neg (by simp [h])]
   simp only [List.length_cons]
   omega
theorem HgtT.set {f : Int} {F : Int → Option (Int × Int × Int)} (H : HgtT f F) {r q s qq qs qh : Int} (hF : F q = some (qq, qs, qh)) (hn : F r = none) : HgtT f (tset F r (q, s, qh + 1)) := by
 have hqr : q ≠ r := fun e => by rw [e, hn] at hF; cases hF
 intro j y hy hj
 unfold tset at hy ⊢
 split at hy
 ·obtain rfl := Option.some.inj hy
  simp only
  rw [if_neg hqr]
  exact ⟨_, hF, rfl⟩
 ·obtain ⟨z, hz, hlt⟩ := H j y hy hj
  rw [if_neg (fun e => by rw [e, hn] at hz; cases hz)]
  exact ⟨z, hz, hlt⟩
section
variable {σ σ' : St} {cs cs' : List Cg} {je jr fe fr : Int} {N : Nat}
theorem Inv.raiseJ (h : Inv σ N) (hj0 : 0 ≤ je) (hj1 : je ≤ 1099511627776) (hjr : inU jr) : Inv (raiseJ σ je jr) N := by
 unfold Go.Proofs.YtndfpmboanohcaaGreatDoor.raiseJ
 split
 ·obtain ⟨⟨a1, a2, a3, a4, a5, a6, a7, a8, a9, _, _, _, b4, b5, b6, b7⟩, h2, h3, h4, h5⟩ := h
  exact ⟨⟨a1, a2, a3, a4, a5, a6, a7, a8, a9, hj0, hj1, hjr, b4, b5, b6, b7⟩, h2, h3, h4, h5⟩
 ·exact h
theorem Inv.cutS (h : Inv σ N) (hf0 : 0 ≤ fe) (hf1 : fe ≤ 1099511627776) (hb : belowT σ.F σ.f fr σ.fr = true) {ks : List Int} (hR : Rising σ.F ks) (hl : ks.length ≤ σ.n) : Inv (cutS σ ks fe fr) N := by
 obtain ⟨x, y, _, hy, _⟩ := below_some hb
 obtain ⟨h1, h2, h3, h4, h5⟩ := h
 obtain ⟨w1, w2⟩ := h1.tree.cut h2 hy
 have hfl := filter_len (fun r => belowT σ.F σ.f r fr) ks
 have hgl : (goneL σ.F σ.f fr ks).length = (ks.filter fun r => !belowT σ.F σ.f r fr).length := rfl
 have hmem : ∀ r, r ∈ goneL σ.F σ.f fr ks ↔ (r ∈ ks ∧ belowT σ.F σ.f r fr = false) := fun r => by unfold goneL; simp
 have hks : ∀ r, (σ.F r).isSome = true → r ∈ ks := fun r hr => by
  obtain ⟨z, hz⟩ := Option.isSome_iff_exists.1 hr
  exact (hR.2.2 r (h1.tree.key r z hz)).2 hr
 have hbs : ∀ r, belowT σ.F σ.f r fr = true → (σ.F r).isSome = true := fun r hr => by
  obtain ⟨_, z, _, hz, _⟩ := below_some hr
  rw [hz]; rfl
 refine ⟨⟨h1.may, w1, ?_, ?_, ?_, ?_, h1.s0, h1.s1, ?_, h1.j0, h1.j1, h1.jr, hf0, hf1, h1.tree.key fr y hy, h1.vr⟩, w2, ?_, ?_, ?_⟩
 ·show ks.length - _ ≤ 1024
  have := h1.n; omega
 ·refine ⟨ks.filter fun r => belowT σ.F σ.f r fr, ?_, fun k hk => ?_⟩
  ·show _ ≤ ks.length - _
   omega
  ·have hk2 : (cutT σ.F σ.f fr k).isSome = true := hk
   rw [cutT_isSome] at hk2
   exact List.mem_filter.2 ⟨hks k (hbs k hk2), hk2⟩
 ·intro r
  show (lessL σ.L (goneL σ.F σ.f fr ks) r).isSome = (cutT σ.F σ.f fr r).isSome
  rw [cutT_isSome]
  unfold lessL
  by_cases hr : r ∈ goneL σ.F σ.f fr ks
  ·rw [if_pos hr, ((hmem r).1 hr).2]
   rfl
  ·rw [if_neg hr, h1.led r]
   cases hbr : belowT σ.F σ.f r fr with
   | true => exact hbs r hbr
   | false =>
    cases hs : (σ.F r).isSome with
    | false => rfl
    | true => exact absurd ((hmem r).2 ⟨hks r hs, hbr⟩) hr
 ·intro r x hx
  have hx2 : lessL σ.L (goneL σ.F σ.f fr ks) r = some x := hx
  unfold lessL at hx2
  split at hx2
  ·cases hx2
  ·exact h1.ledbd r x hx2
 ·show inU (if (cutT σ.F σ.f fr σ.boosted).isSome then σ.boosted else 0)
  split
  ·exact h1.bo
  ·unfold inU; omega
 ·obtain ⟨kc, k1, k2⟩ := h3
  refine ⟨kc, k1, fun r hr => k2 r ?_⟩
  rcases hr with hr | hr
  ·have hr2 : (cutT σ.F σ.f fr r).isSome = true := hr
   rw [cutT_isSome] at hr2
   exact .inl (hbs r hr2)
  ·rcases hr with hr | hr
   ·exact .inr hr
   ·have h5 := ((hmem r).1 hr).1
    exact .inl ((hR.2.2 r (hR.2.1 r h5)).1 h5)
 ·show ks.length - _ ≤ N
  omega
 ·intro r c hc
  have hc2 : cutT σ.F σ.f fr r = some c := hc
  obtain ⟨_, z, hz, e⟩ := cutT_some hc2
  have h6 := h5 r z hz
  have h7 := h1.tree.hgt fr y hy
  rw [e]
  unfold cutN getT
  rw [hy]
  simp only [Option.getD_some]
  omega
theorem Inv.klen (h : Inv σ N) {ks : List Int} (hR : Rising σ.F ks) : ks.length ≤ σ.n := by
 obtain ⟨k0, h1, h2⟩ := h.wf.ks
 have hnd : ks.Nodup := hR.1.imp (fun h => by omega)
 exact Nat.le_trans (nodup_sub hnd (fun x hx => h2 x ((hR.2.2 x (hR.2.1 x hx)).1 hx))) h1
theorem raiseJ_same (σ : St) (je jr : Int) : (raiseJ σ je jr).F = σ.F ∧ (raiseJ σ je jr).f = σ.f ∧ (raiseJ σ je jr).bs = σ.bs ∧ (raiseJ σ je jr).S = σ.S ∧ (raiseJ σ je jr).B = σ.B ∧ (raiseJ σ je jr).slot = σ.slot ∧ (raiseJ σ je jr).fr = σ.fr ∧ (raiseJ σ je jr).n = σ.n := by
 unfold raiseJ
 split <;> exact ⟨rfl, rfl, rfl, rfl, rfl, rfl, rfl, rfl⟩
theorem Inv.raised (h : Inv σ N) (hr : Raised σ cs je jr fe fr σ' cs') (hj0 : 0 ≤ je) (hj1 : je ≤ 1099511627776) (hjr : inU jr) (hf0 : 0 ≤ fe) (hf1 : fe ≤ 1099511627776) :
  Inv σ' N ∧ σ'.bs = σ.bs ∧ σ'.S = σ.S ∧ σ'.B = σ.B ∧ σ'.slot = σ.slot ∧ σ'.n ≤ σ.n ∧ cs'.length ≤ cs.length + 1 := by
 obtain ⟨e1, e2, e3, e4, e5, e6, e7, e8⟩ := raiseJ_same σ je jr
 have hJ := h.raiseJ (je := je) (jr := jr) hj0 hj1 hjr
 unfold Raised at hr
 split at hr
 ·rename_i hc
  obtain ⟨ks, hR, rfl, rfl⟩ := hr
  have hb : belowT (Go.Proofs.YtndfpmboanohcaaGreatDoor.raiseJ σ je jr).F (Go.Proofs.YtndfpmboanohcaaGreatDoor.raiseJ σ je jr).f fr (Go.Proofs.YtndfpmboanohcaaGreatDoor.raiseJ σ je jr).fr = true := by
   unfold raiseC at hc
   cases hb : belowT (Go.Proofs.YtndfpmboanohcaaGreatDoor.raiseJ σ je jr).F (Go.Proofs.YtndfpmboanohcaaGreatDoor.raiseJ σ je jr).f fr (Go.Proofs.YtndfpmboanohcaaGreatDoor.raiseJ σ je jr).fr with
   | true => rfl
   | false => rw [hb] at hc; simp at hc
  have hl := h.klen hR
  have hR2 : Rising (Go.Proofs.YtndfpmboanohcaaGreatDoor.raiseJ σ je jr).F ks := by rw [e1]; exact hR
  refine ⟨hJ.cutS hf0 hf1 hb hR2 (by rw [e8]; exact hl), e3, e4, e5, e6, ?_, by simp⟩
  show ks.length - _ ≤ σ.n
  omega
 ·obtain ⟨rfl, rfl⟩ := hr
  exact ⟨hJ, e3, e4, e5, e6, by omega, by omega⟩
end
end Go.Proofs.YtndfpmboanohcaaGreatDoor
