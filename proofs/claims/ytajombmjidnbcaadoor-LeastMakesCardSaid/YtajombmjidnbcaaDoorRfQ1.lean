import Derived.Test.YtajombmjidnbcaaDoorRfCell
/- Own work: classes of states (plain laws): numbers by first occurrence; which states are told apart. -/
set_option linter.unusedVariables false
set_option linter.unusedSectionVars false
namespace Go.Rf

/-! ### numbers by first occurrence -/
section
variable {K : Type} [BEq K]
def numStep (s : List K × List Int) (k : K) : List K × List Int := if s.1.contains k then (s.1, s.2 ++ [(s.1.idxOf k : Int)]) else (s.1 ++ [k], s.2 ++ [(s.1.length : Int)])
def numF1 (l : List K) : List K × List Int := l.foldl numStep ([], [])
theorem numF1_snoc (l : List K) (k : K) : numF1 (l ++ [k]) = numStep (numF1 l) k := by simp [numF1]
end
theorem snocInd {X : Type} {p : List X → Prop} (h0 : p []) (h1 : ∀ l x, p l → p (l ++ [x])) (l : List X) : p l := by
  have : ∀ r : List X, p r.reverse := by
    intro r
    induction r with
    | nil => exact h0
    | cons x r ih => rw [List.reverse_cons]; exact h1 _ _ ih
  rw [← List.reverse_reverse l]; exact this _
section
variable {K : Type} [BEq K] [LawfulBEq K]
structure NumOk (l : List K) (s : List K × List Int) : Prop where
  len : s.2.length = l.length
  nd : s.1.Nodup
  mem : ∀ k, k ∈ s.1 ↔ k ∈ l
  at_ : ∀ i (h : i < l.length), s.2[i]? = some ((s.1.idxOf l[i] : Nat) : Int)
theorem numF1_ok (l : List K) : NumOk l (numF1 l) := by
  refine snocInd (p := fun l => NumOk l (numF1 l)) ?_ ?_ l
  · exact ⟨rfl, List.nodup_nil, by simp [numF1], by simp⟩
  · intro l k ih
    rw [numF1_snoc]
    unfold numStep
    split
    · rename_i hc
      have hin : k ∈ (numF1 l).1 := by simpa using hc
      refine ⟨by simp [ih.len], ih.nd, fun x => ?_, fun i hi => ?_⟩
      · simp only [List.mem_append, List.mem_singleton]
        rw [ih.mem]
        constructor
        · exact .inl
        · rintro (h | rfl)
          · exact h
          · exact (ih.mem _).mp hin
      · simp only
        by_cases hl : i < l.length
        · rw [List.getElem?_append_left (by rw [ih.len]; exact hl), List.getElem_append_left hl]; exact ih.at_ i hl
        · have : i = l.length := by simp at hi; omega
          subst this
          rw [List.getElem?_append_right (by rw [ih.len]; omega), ih.len]
          simp
    · rename_i hc
      have hin : k ∉ (numF1 l).1 := by simpa using hc
      refine ⟨by simp [ih.len], ?_, fun x => ?_, fun i hi => ?_⟩
      · rw [List.nodup_append]
        exact ⟨ih.nd, by simp, fun a ha b hb => by simp at hb; subst hb; rintro rfl; exact hin ha⟩
      · simp only [List.mem_append, List.mem_singleton]
        rw [ih.mem]
      · simp only
        by_cases hl : i < l.length
        · rw [List.getElem?_append_left (by rw [ih.len]; exact hl), List.getElem_append_left hl]
          have hm : l[i] ∈ (numF1 l).1 := (ih.mem _).mpr (List.getElem_mem hl)
          rw [List.idxOf_append, if_pos hm]
          exact ih.at_ i hl
        · have : i = l.length := by simp at hi; omega
          subst this
          rw [List.getElem?_append_right (by rw [ih.len]; omega), ih.len]
          simp only [List.getElem_concat_length, Nat.sub_self, List.getElem?_cons_zero]
          rw [List.idxOf_append, if_neg hin]
          simp
end
/-- The numbers hang on which are the same alone. -/
theorem num_congr {K M : Type} [BEq K] [LawfulBEq K] [BEq M] [LawfulBEq M] {l : List K} {m : List M} (hl : l.length = m.length) (h : ∀ i j (h1 : i < l.length) (h2 : j < l.length), l[i] = l[j] ↔ m[i]'(by omega) = m[j]'(by omega)) :
    (numF1 l).2 = (numF1 m).2 ∧ (numF1 l).1.length = (numF1 m).1.length := by
  have key : ∀ n, n ≤ l.length → (numF1 (l.take n)).2 = (numF1 (m.take n)).2 ∧ (numF1 (l.take n)).1.length = (numF1 (m.take n)).1.length ∧
      ∀ i (h1 : i < n) (h2 : i < l.length), ((numF1 (l.take n)).1.idxOf l[i]) = ((numF1 (m.take n)).1.idxOf (m[i]'(by omega))) := by
    intro n
    induction n with
    | zero => intro _; simp [numF1]
    | succ n ih =>
      intro hn
      have hnl : n < l.length := by omega
      have hnm : n < m.length := by omega
      obtain ⟨i1, i2, i3⟩ := ih (by omega)
      have e1 : l.take (n + 1) = l.take n ++ [l[n]] := by rw [List.take_add_one, List.getElem?_eq_getElem hnl]; rfl
      have e2 : m.take (n + 1) = m.take n ++ [m[n]] := by rw [List.take_add_one, List.getElem?_eq_getElem hnm]; rfl
      have o1 := numF1_ok (l.take n)
      have o2 := numF1_ok (m.take n)
      have hmem : l[n] ∈ (numF1 (l.take n)).1 ↔ m[n] ∈ (numF1 (m.take n)).1 := by
        rw [o1.mem, o2.mem, List.mem_take_iff_getElem, List.mem_take_iff_getElem]
        constructor
        · rintro ⟨i, hi, e⟩
          exact ⟨i, by omega, (h i n (by omega) hnl).mp e⟩
        · rintro ⟨i, hi, e⟩
          exact ⟨i, by omega, (h i n (by omega) hnl).mpr e⟩
      rw [e1, e2, numF1_snoc, numF1_snoc]
      by_cases hin : l[n] ∈ (numF1 (l.take n)).1
      · have hin2 := hmem.mp hin
        obtain ⟨i, hi, ei⟩ : ∃ i, ∃ hi : i < n, l[i] = l[n] := by
          have := (o1.mem _).mp hin
          rw [List.mem_take_iff_getElem] at this
          obtain ⟨i, hi, e⟩ := this
          exact ⟨i, by omega, e⟩
        have em := (h i n (by omega) hnl).mp ei
        have hidx := i3 i hi (by omega)
        rw [ei, em] at hidx
        have c1 : (numF1 (l.take n)).1.contains l[n] = true := by simpa using hin
        have c2 : (numF1 (m.take n)).1.contains m[n] = true := by simpa using hin2
        simp only [numStep, c1, c2, if_true]
        refine ⟨by rw [i1, hidx], i2, fun j hj hjl => ?_⟩
        by_cases hjn : j < n
        · exact i3 j hjn hjl
        · have : j = n := by omega
          subst this; exact hidx
      · have hin2 := fun h2 => hin (hmem.mpr h2)
        have c1 : (numF1 (l.take n)).1.contains l[n] = false := by simpa using hin
        have c2 : (numF1 (m.take n)).1.contains m[n] = false := by simpa using hin2
        simp only [numStep, c1, c2, Bool.false_eq_true, if_false]
        refine ⟨by rw [i1, i2], by simp [i2], fun j hj hjl => ?_⟩
        by_cases hjn : j < n
        · have m1 : l[j] ∈ (numF1 (l.take n)).1 := (o1.mem _).mpr (List.mem_take_iff_getElem.mpr ⟨j, by omega, rfl⟩)
          have m2 : m[j]'(by omega) ∈ (numF1 (m.take n)).1 := (o2.mem _).mpr (List.mem_take_iff_getElem.mpr ⟨j, by omega, rfl⟩)
          rw [List.idxOf_append, if_pos m1, List.idxOf_append, if_pos m2]
          exact i3 j hjn hjl
        · have : j = n := by omega
          subst this
          rw [List.idxOf_append, if_neg hin, List.idxOf_append, if_neg hin2, i2]
          simp
  obtain ⟨a, b, _⟩ := key l.length (Nat.le_refl _)
  rw [List.take_length, hl, List.take_length] at *
  exact ⟨a, b⟩
end Go.Rf

