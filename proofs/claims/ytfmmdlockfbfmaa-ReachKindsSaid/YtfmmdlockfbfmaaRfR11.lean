import Derived.Test.YtfmmdlockfbfmaaRfR9
/- Own work: VerdictOne, gone through. -/
set_option linter.unusedVariables false
set_option linter.unusedSimpArgs false
namespace Go.Rf
open Go.RowKit

structure VoS (x : Bk) (l : List Int) (at_ d : Int) (c5 : AV) (n6 : Int) (f : AF) (S : St) : Prop where
  e1 : f 1 = encIs l
  e2 : f 2 = .ptr 0 0 0
  e5 : f 5 = c5
  e6 : f 6 = encI n6
  e7 : f 7 = encI at_
  e8 : f 8 = encI d
  g0 : S.g 0 = some (.arr 4 [encBk x])
theorem VoS.same {x : Bk} {l : List Int} {at_ d : Int} {c5 : AV} {n6 : Int} {f f' : AF} {S S' : St} (h : VoS x l at_ d c5 n6 f S) (hf : ∀ j, j = 1 ∨ j = 2 ∨ j = 5 ∨ j = 6 ∨ j = 7 ∨ j = 8 → f' j = f j) (hg : S'.g = S.g) : VoS x l at_ d c5 n6 f' S' :=
  ⟨by rw [hf _ (by simp)]; exact h.e1, by rw [hf _ (by simp)]; exact h.e2, by rw [hf _ (by simp)]; exact h.e5, by rw [hf _ (by simp)]; exact h.e6, by rw [hf _ (by simp)]; exact h.e7, by rw [hf _ (by simp)]; exact h.e8, by rw [hg]; exact h.g0⟩
end Go.Rf

