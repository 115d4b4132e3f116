import Derived.Test.YtgmbloldekkieaaRfM18b
/- Own work: the first marked list: what the statement asks. -/
set_option linter.unusedVariables false
set_option linter.unusedSimpArgs false
namespace Go.Rf
theorem least_nat {P : Nat → Prop} (h : ∃ n, P n) : ∃ n, P n ∧ ∀ m, m < n → ¬ P m := by
  obtain ⟨n, hn⟩ := h
  induction n using Nat.strongRecOn with
  | _ n ih =>
    by_cases hc : ∃ m, m < n ∧ P m
    · obtain ⟨m, h1, h2⟩ := hc; exact ih m h1 h2
    · exact ⟨n, hn, fun m h1 h2 => hc ⟨m, h1, h2⟩⟩
noncomputable def farP (d : Det) : List Int := farS (pg d)
noncomputable def markOk (d : Det) : Bool := rightD d && (decide (d.signs % 2 = 0) && decide (0 ≤ rd (farP d) 0))
noncomputable def markS (d : Det) : List Int := if markOk d = true then markFrom d (farP d) (rd (farP d) 0).toNat [0] else []
structure IsFirst (d : Det) (s : List Int) (p : Nat) : Prop where
  lo : 1 ≤ p
  hi : p < s.length
  acc : accD d (writeS s p) = true
  fst : ∀ q : Nat, 1 ≤ q → q < p → accD d (writeS s q) = false
theorem IsFirst.uniq {d : Det} {s : List Int} {p q : Nat} (h : IsFirst d s p) (k : IsFirst d s q) : p = q := by
  rcases Nat.lt_trichotomy p q with h1 | h1 | h1
  · have := k.fst p h.lo h1; rw [h.acc] at this; cases this
  · exact h1
  · have := h.fst q k.lo h1; rw [k.acc] at this; cases this
theorem accF_small {d : Det} (R : RightD d) (q : Int) : ∀ (hs : List Int) (i s : Nat), s < d.next.length → accF d s (wrL q i hs) → hs.any oddS = false
  | [], i, s, hs, h => rfl
  | x :: hs, i, s, hlt, h => by
    simp only [wrL] at h
    rw [accF_cons] at h
    obtain ⟨⟨h1, h2⟩, h3⟩ := h
    have ho : one1 q i = 0 ∨ one1 q i = 1 := by unfold one1; split <;> simp
    have := R.s2
    have ih := accF_small R q hs (i + 1) _ (stepD_lt R hlt h1 h2) h3
    rw [List.any_cons, ih]
    simp [oddS]; omega
theorem accD_F {d : Det} (R : RightD d) (l : List Int) : accD d l = true ↔ accF d 0 l := accD_iff R l
theorem write_acc {d : Det} (R : RightD d) {hs : List Int} {q : Nat} (h1 : 1 ≤ q) (h2 : q < hs.length) (h : accF d 0 (wrL q 0 hs)) : writeS hs q = wrL q 0 hs := by
  have := accF_small R q hs 0 0 (by have := R.n1; omega) h
  unfold writeS; rw [if_pos ⟨by omega, by omega, this⟩]
theorem markOk_iff {d : Det} (R : RightD d) (hev : d.signs % 2 = 0) : markOk d = true ↔ 0 ≤ rd (farP d) 0 := by
  have hr : rightD d = true := (right_iff d).mpr R
  simp [markOk, hr, hev]
theorem atOk0 {d : Det} (R : RightD d) (h : 0 ≤ rd (farP d) 0) : AtOk d (farP d) [0] (rd (farP d) 0).toNat := by
  have := R.n1
  exact ⟨by simp, by simp; omega, by simp; omega⟩
theorem mark_first {d : Det} (R : RightD d) (hev : d.signs % 2 = 0) (hok : markOk d = true) : ∃ p, IsFirst d (markS d) p := by
  have fo := farS_ok (pg d)
  have h0 := (markOk_iff R hev).mp hok
  have hn : 0 < d.next.length := by have := R.n1; omega
  obtain ⟨u, hu, hp⟩ := mark_acc R hev fo _ _ (atOk0 R h0)
  have : u = 0 := by simpa using hu
  subst this
  obtain ⟨q, q1, q2, q3⟩ := (accP0 R _ hn).mp hp
  have hS : markS d = markFrom d (farS (pg d)) (rd (farP d) 0).toNat [0] := by unfold markS; rw [if_pos hok]; rfl
  rw [← hS] at q2 q3
  have hw := write_acc R q1 q2 q3
  obtain ⟨p, ⟨p1, p2⟩, p3⟩ := least_nat (P := fun p => 1 ≤ p ∧ accD d (writeS (markS d) p) = true) ⟨q, q1, by rw [hw, accD_F R]; exact q3⟩
  have hpq : p ≤ q := by
    by_cases h : p ≤ q
    · exact h
    · exact (p3 q (by omega) ⟨q1, by rw [hw, accD_F R]; exact q3⟩).elim
  refine ⟨p, p1, by omega, p2, fun q h1 h2 => ?_⟩
  have := p3 q h2
  cases hb : accD d (writeS (markS d) q) with
  | false => rfl
  | true => exact (this ⟨h1, hb⟩).elim
theorem mark_law {d : Det} (R : RightD d) (hev : d.signs % 2 = 0) {signs : List Int} {place : Nat} (hne : writeS signs place ≠ []) (hacc : accD d (writeS signs place) = true) :
    markOk d = true ∧ ∀ p, IsFirst d (markS d) p → beforeS (markS d) signs = true ∨ (markS d = signs ∧ p ≤ place) := by
  have fo := farS_ok (pg d)
  have hn : 0 < d.next.length := by have := R.n1; omega
  have hw : 1 ≤ (place : Int) ∧ (place : Int) < signs.length ∧ signs.any oddS = false := by
    by_cases h : 1 ≤ (place : Int) ∧ (place : Int) < signs.length ∧ signs.any oddS = false
    · exact h
    · exact (hne (by unfold writeS; rw [if_neg h])).elim
  have he : writeS signs place = wrL place 0 signs := by unfold writeS; rw [if_pos hw]
  rw [accD_F R, he] at hacc
  have hp : accP d (3 * 0) signs := (accP0 R _ hn).mpr ⟨place, by omega, by omega, hacc⟩
  obtain ⟨f1, f2⟩ := accP_far R fo signs 0 (by omega) hp
  have hok : markOk d = true := (markOk_iff R hev).mpr f1
  have hS : markS d = markFrom d (farS (pg d)) (rd (farP d) 0).toNat [0] := by unfold markS; rw [if_pos hok]; rfl
  have hlen : (markS d).length = (rd (farP d) 0).toNat := by rw [hS, markFrom_length]
  have hfp : rd (farP d) 0 = rd (farS (pg d)) 0 := rfl
  refine ⟨hok, fun p hfst => ?_⟩
  rw [beforeS_eq]
  by_cases hl : (markS d).length = signs.length
  · have hml := mark_least R hev fo signs [0] (by rw [← hl, hlen]; exact atOk0 R f1) 0 (by simp) (by simpa using hp)
    have hS2 : markFrom d (farS (pg d)) signs.length [0] = markS d := by rw [hS, ← hl, hlen]
    rw [hS2, cmpL_swap (markS d) signs] at hml
    have hord : ordL (markS d) signs = cmpL (markS d) signs := by
      rw [ordL_def, hl]
      have : cmpI (signs.length : Int) signs.length = 0 := cmpI_zero.mpr rfl
      rw [if_neg (by rw [this]; simp)]
    by_cases hz : cmpL (markS d) signs = 0
    · right
      have heq := (cmpL_zero _ _).mp hz
      refine ⟨heq, ?_⟩
      by_cases hpp : p ≤ place
      · exact hpp
      · have := hfst.fst place (by omega) (by omega)
        rw [heq, he] at this
        have := (accD_F R _).mpr hacc
        simp_all
    · left
      rw [hord]; simp; omega
  · left
    have hlt : (markS d).length < signs.length := by omega
    rw [ordL_def]
    have : cmpI (markS d).length signs.length = -1 := by unfold cmpI; rw [if_pos (by omega)]
    rw [this]; simp
end Go.Rf
