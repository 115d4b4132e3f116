import Derived.Test.YtfmmdlockfbfmaaRfV2
import Derived.Test.YtfmmdlockfbfmaaRfR17
/- Own work: the walks of layer 11's statements. -/
set_option linter.unusedVariables false
set_option linter.unusedSimpArgs false
namespace Go.Rf
open Go.RowKit

structure RtS (p : Pat) (l : List Int) (b2 b5 : Nat) (f : AF) (S : St) : Prop where
  e1 : f 1 = encIs l
  e2 : f 2 = .ptr b2 0 0
  e5 : f 5 = .ptr b5 0 0
  e6 : f 6 = encIs l.reverse
  e7 : f 7 = encI l.length
  g2 : S.g b2 = some (.arr 4 [encPat p])
  g5 : S.g b5 = some (.arr 4 [encPat (turnP p)])
theorem RtS.same {p : Pat} {l : List Int} {b2 b5 : Nat} {f f' : AF} {S S' : St} (h : RtS p l b2 b5 f S) (hf : ∀ j, j = 1 ∨ j = 2 ∨ j = 5 ∨ j = 6 ∨ j = 7 → f' j = f j) (hg : S'.g = S.g) : RtS p l b2 b5 f' S' :=
  ⟨by rw [hf 1 (by simp)]; exact h.e1, by rw [hf 2 (by simp)]; exact h.e2, by rw [hf 5 (by simp)]; exact h.e5, by rw [hf 6 (by simp)]; exact h.e6, by rw [hf 7 (by simp)]; exact h.e7, by rw [hg]; exact h.g2, by rw [hg]; exact h.g5⟩
structure RtE (l E B : List Int) (i : Int) : Prop where
  len : B.length = E.length
  get : ∀ k (h : k < E.length), B[E.length - 1 - k]? = some ((l.length : Int) - E[k])
  rng : ∀ x ∈ E, i ≤ x ∧ x ≤ (l.length : Int)
  inc : E.Pairwise (· < ·)
  few : E.length ≤ l.length + 1
end Go.Rf

