import Derived.Test.YtidkjfaeolfcaaaGreatRfL10
import Derived.Lib.SlicesCompact
import Derived.Lib.RowBridge
/- Own work: numbers, rising, each once. -/
set_option linter.unusedVariables false
set_option linter.unusedSimpArgs false
namespace Go.Rf

theorem mem_cmp {zs : List Int} {x : Int} : x ∈ Lib.compact zs ↔ x ∈ zs := by
  have hget : ∀ j (hj : j < zs.length), zs.toArray[j]! = zs[j] := fun j hj => by simp [hj]
  simp only [Lib.compact, Lib.compactUpTo, List.mem_map, List.mem_filter, List.mem_range]
  constructor
  · rintro ⟨j, ⟨hj, _⟩, rfl⟩
    rw [hget j hj]; exact List.getElem_mem hj
  · intro hx
    obtain ⟨j, hj, rfl⟩ := List.mem_iff_getElem.mp hx
    have key : ∀ m, ∀ j (hj : j < zs.length), j ≤ m → ∃ a, (a < zs.length ∧ Lib.keeps zs.toArray a = true) ∧ zs.toArray[a]! = zs[j] := by
      intro m
      induction m with
      | zero =>
        intro j hj h0
        have : j = 0 := by omega
        subst this
        exact ⟨0, ⟨hj, by simp [Lib.keeps]⟩, hget 0 hj⟩
      | succ m ih =>
        intro j hj hm
        by_cases hk : Lib.keeps zs.toArray j = true
        · exact ⟨j, ⟨hj, hk⟩, hget j hj⟩
        · have hk' : ¬ (j = 0 ∨ zs.toArray[j]! ≠ zs.toArray[j - 1]!) := by simpa [Lib.keeps] using hk
          have h0 : j ≠ 0 := fun e => hk' (.inl e)
          have he : zs.toArray[j]! = zs.toArray[j - 1]! := Decidable.byContradiction fun e => hk' (.inr e)
          obtain ⟨a, ha, hb⟩ := ih (j - 1) (by omega) (by omega)
          refine ⟨a, ha, ?_⟩
          rw [hb, ← hget (j - 1) (by omega), ← he, hget j hj]
    obtain ⟨a, h1, h2⟩ := key j j hj (Nat.le_refl _)
    exact ⟨a, h1, h2⟩
theorem cmp_pw {zs : List Int} (h : zs.Pairwise (· ≤ ·)) : (Lib.compact zs).Pairwise (· < ·) := by
  have hget : ∀ j (hj : j < zs.length), zs.toArray[j]! = zs[j] := fun j hj => by simp [hj]
  have hp := List.pairwise_iff_getElem.mp h
  simp only [Lib.compact, Lib.compactUpTo]
  rw [List.pairwise_map]
  refine List.Pairwise.imp_of_mem ?_ (List.Pairwise.filter _ List.pairwise_lt_range)
  intro a b ha hb hab
  simp only [List.mem_filter, List.mem_range] at ha hb
  obtain ⟨hb1, hb2⟩ := hb
  have hk : b = 0 ∨ zs.toArray[b]! ≠ zs.toArray[b - 1]! := by simpa [Lib.keeps] using hb2
  have h1 : zs.toArray[b]! ≠ zs.toArray[b - 1]! := by
    rcases hk with h1 | h1
    · omega
    · exact h1
  rw [hget b hb1, hget (b - 1) (by omega)] at h1
  rw [hget a ha.1, hget b hb1]
  have h2 : zs[b - 1] ≤ zs[b] := by
    have := hp (b - 1) b (by omega) hb1 (by omega); exact this
  have h3 : zs[a] ≤ zs[b - 1] := by
    by_cases e : a = b - 1
    · subst e; exact Int.le_refl _
    · exact hp a (b - 1) ha.1 (by omega) (by omega)
  omega
def setF (l : List Int) : List Int := Lib.compact (l.mergeSort fun x y => decide (x ≤ y))
theorem mem_setF {l : List Int} {x : Int} : x ∈ setF l ↔ x ∈ l := by
  unfold setF; rw [mem_cmp]; exact (List.mergeSort_perm _ _).mem_iff
theorem setF_pw (l : List Int) : (setF l).Pairwise (· < ·) := by
  refine cmp_pw ?_
  have := List.pairwise_mergeSort (le := fun x y : Int => decide (x ≤ y)) (by simp; omega) (by simp; omega) l
  simpa using this
/-- Rising numbers from a to below b: not more than there are. -/
theorem pw_len : ∀ {l : List Int} {a b : Int}, l.Pairwise (· < ·) → (∀ x ∈ l, a ≤ x ∧ x < b) → (l.length : Int) ≤ max 0 (b - a)
  | [], a, b, _, _ => by simp; omega
  | x :: l, a, b, hl, h => by
    have hl2 := List.pairwise_cons.mp hl
    have hx := h x (by simp)
    have := pw_len (l := l) (a := x + 1) (b := b) hl2.2 (fun y hy => ⟨by have := hl2.1 y hy; omega, (h y (by simp [hy])).2⟩)
    simp only [List.length_cons]; omega
/-- Do they rise, from a to below b? -/
def risesB (l : List Int) (a b : Int) : Bool := decide (l.Pairwise (· < ·)) && l.all fun x => decide (a ≤ x) && decide (x < b)
def RisesP (l : List Int) (a b : Int) : Prop := l.Pairwise (· < ·) ∧ ∀ x ∈ l, a ≤ x ∧ x < b
end Go.Rf

