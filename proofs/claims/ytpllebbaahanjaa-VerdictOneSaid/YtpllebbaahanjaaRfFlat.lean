import Derived.Test.YtpllebbaahanjaaRfView
import Derived.Great.FillDense
set_option linter.unusedVariables false
namespace Go.Rf
open Go.RowKit

theorem flat_get {xs : List AV} {es : Nat} (h : ∀ x ∈ xs, x.cells.length = es) (k : Nat) (hk : k < (flat xs).length) :
    ∃ (hi : k / es < xs.length) (hj : k % es < (xs[k / es]).cells.length), (flat xs)[k] = (xs[k / es]).cells[k % es] := by
  have hl := length_flat h
  have hes : 0 < es := by
    rcases Nat.eq_zero_or_pos es with e | e
    · subst e; rw [hl] at hk; simp at hk
    · exact e
  have hi : k / es < xs.length := by
    rw [Nat.div_lt_iff_lt_mul hes]; omega
  have hj : k % es < (xs[k / es]).cells.length := by rw [h _ (List.getElem_mem hi)]; exact Nat.mod_lt _ hes
  obtain ⟨hk', e⟩ := flat_at h (k / es) hi (k % es) hj
  refine ⟨hi, hj, ?_⟩
  rw [← e]
  congr 1
  rw [Nat.mul_comm]; exact (Nat.div_add_mod k es).symm
/-- x's cells put into y from c on. -/
def putc (y : AV) (c : Nat) (x : AV) : AV :=
  if x.cells.length = y.cells.length then x else .agg (y.cells.take c ++ x.cells ++ y.cells.drop (c + x.cells.length))
theorem putc_length {y x : AV} {c : Nat} (h : c + x.cells.length ≤ y.cells.length) : (putc y c x).cells.length = y.cells.length := by
  unfold putc
  split
  · assumption
  · show (y.cells.take c ++ x.cells ++ y.cells.drop (c + x.cells.length)).length = _
    simp only [List.length_append, List.length_take, List.length_drop]; omega
theorem putc_get {y x : AV} {c : Nat} (h : c + x.cells.length ≤ y.cells.length) (j : Nat) (hj : j < (putc y c x).cells.length) :
    (putc y c x).cells[j] = if hc : c ≤ j ∧ j < c + x.cells.length then x.cells[j - c]'(by omega) else y.cells[j]'(by rw [putc_length h] at hj; exact hj) := by
  have hl := putc_length h
  have hj' : j < y.cells.length := by rw [← hl]; exact hj
  by_cases e : x.cells.length = y.cells.length
  · have hc : c = 0 := by omega
    subst hc
    have hp : putc y 0 x = x := by unfold putc; rw [if_pos e]
    rw [dif_pos ⟨by omega, by omega⟩]
    simp only [hp, Nat.sub_zero]
  · have hp : (putc y c x).cells = y.cells.take c ++ x.cells ++ y.cells.drop (c + x.cells.length) := by unfold putc; rw [if_neg e]; rfl
    simp only [hp]
    simp only [List.getElem_append, List.length_append, List.length_take, List.getElem_take, List.getElem_drop]
    have hm : min c y.cells.length = c := by omega
    simp only [hm]
    split
    · split
      · rw [dif_neg (by omega)]
      · rw [dif_pos (by omega)]
    · rw [dif_neg (by omega)]
      congr 1; omega
theorem mem_set_cells {xs : List AV} {es ix : Nat} (h : ∀ x ∈ xs, x.cells.length = es) {z : AV} (hz : z.cells.length = es) : ∀ x ∈ xs.set ix z, x.cells.length = es := by
  intro x hx
  rcases List.mem_or_eq_of_mem_set hx with h1 | h1
  · exact h x h1
  · rw [h1]; exact hz
/-- The cells behind a store into element ix, from c on. -/
theorem flat_set {xs : List AV} {es : Nat} (h : ∀ x ∈ xs, x.cells.length = es) (ix : Nat) (hix : ix < xs.length) {x : AV} {c : Nat} (hc : c + x.cells.length ≤ es) :
    ∃ hl : (flat (xs.set ix (putc xs[ix] c x))).length = (flat xs).length, ∀ k (hk : k < (flat xs).length),
      (flat (xs.set ix (putc xs[ix] c x)))[k]'(by omega) = if hc : ix * es + c ≤ k ∧ k < ix * es + c + x.cells.length then x.cells[k - (ix * es + c)]'(by omega) else (flat xs)[k] := by
  have hy : (xs[ix]).cells.length = es := h _ (List.getElem_mem hix)
  have hz : (putc xs[ix] c x).cells.length = es := by rw [putc_length (by omega)]; exact hy
  have h' := mem_set_cells (ix := ix) h hz
  have hl : (flat (xs.set ix (putc xs[ix] c x))).length = (flat xs).length := by rw [length_flat h', length_flat h, List.length_set]
  refine ⟨hl, fun k hk => ?_⟩
  obtain ⟨hi, hj, e⟩ := flat_get h' k (by omega)
  obtain ⟨hi2, hj2, e2⟩ := flat_get h k hk
  have hes : 0 < es := by
    rcases Nat.eq_zero_or_pos es with e | e
    · subst e; rw [length_flat h] at hk; simp at hk
    · exact e
  have hdm : es * (k / es) + k % es = k := Nat.div_add_mod k es
  have hmod : k % es < es := Nat.mod_lt _ hes
  rw [e, e2]
  by_cases hki : k / es = ix
  · have hdm2 : ix * es + k % es = k := by rw [← hki, Nat.mul_comm]; exact hdm
    have e3 : (xs.set ix (putc xs[ix] c x))[k / es] = putc xs[ix] c x := by simp [hki]
    have hjj : k % es < (putc xs[ix] c x).cells.length := by rw [hz]; exact hmod
    have : ((xs.set ix (putc xs[ix] c x))[k / es]).cells[k % es] = (putc xs[ix] c x).cells[k % es]'hjj := by simp only [e3]
    rw [this, putc_get (by omega)]
    by_cases hin : c ≤ k % es ∧ k % es < c + x.cells.length
    · rw [dif_pos hin, dif_pos (by omega)]
      congr 1; omega
    · rw [dif_neg hin, dif_neg (by omega)]
      simp only [hki]
  · have hne : ¬ (ix * es + c ≤ k ∧ k < ix * es + c + x.cells.length) := by
      intro ⟨a, b⟩
      apply hki
      exact Nat.div_eq_of_lt_le (by omega) (by rw [Nat.add_mul, Nat.one_mul]; omega)
    rw [dif_neg hne]
    have e3 : (xs.set ix (putc xs[ix] c x))[k / es] = xs[k / es] := by
      rw [List.getElem_set_ne (by omega)]
    simp only [e3]
/-- 'Instr.fill' at one part. -/
theorem fill_part (place : Nat → Option (Nat × Nat)) (cells : Array Value) (i : Nat) (v : Value) (rest : List (Nat × Value)) (off size : Nat) (hp : place i = some (off, size)) (hs : v.cells.size = size) (ho : off + size ≤ cells.size) :
    ∃ cells', Instr.fill place cells ((i, v) :: rest) = Instr.fill place cells' rest ∧ cells'.size = cells.size ∧
      ∀ k, cells'[k]? = if off ≤ k ∧ k < off + size then v.cells[k - off]? else cells[k]? := by
  refine ⟨v.cells.zipIdx.foldl (fun cs (x : Value × Nat) => cs.setIfInBounds (off + x.2) x.1) cells, ?_, ?_⟩
  · simp only [Instr.fill, hp]
    rw [if_neg (by simp; omega)]
  · have h := Great.foldl_set off v.cells.toList 0 cells
    have e : v.cells.zipIdx.foldl (fun cs (x : Value × Nat) => cs.setIfInBounds (off + x.2) x.1) cells = (v.cells.toList.zipIdx 0).foldl (fun cs (x : Value × Nat) => cs.setIfInBounds (off + x.2) x.1) cells := by
      rw [← Array.foldl_toList, Array.toList_zipIdx]
    rw [e]
    refine ⟨h.1, fun k => ?_⟩
    rw [h.2 k]
    simp only [Nat.add_zero, Array.length_toList, Array.getElem?_toList]
    by_cases hk : off ≤ k ∧ k < off + size
    · rw [if_pos (by omega), if_pos hk]
    · rw [if_neg (by omega), if_neg hk]
end Go.Rf

