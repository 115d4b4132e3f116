import Derived.Test.YtfmmdlockfbfmaaRfV3
import Derived.Test.YtfmmdlockfbfmaaRfWk
/- Own work: ReachKinds' walk. -/
set_option linter.unusedVariables false
set_option linter.unusedSimpArgs false
namespace Go.Rf
open Go.RowKit

def RkC (P : Program) (fm : FuncId) (l : List Int) (v : AV) (p : Pat) : Prop := ∀ a b : Int, PureC P fm [v, encIs l, encI a, encI b] (encB (matP p l a b))
structure RkV where
  p : AV
  q : AV
  jn : AV
  or_ : AV
  st : AV
  pl : AV
  mb : AV
  bo : AV
structure RkS (l : List Int) (V : RkV) (b : Nat → Nat) (f : AF) (S : St) : Prop where
  e2 : f 2 = encIs l
  e3 : f 3 = .ptr (b 3) 0 0
  e4 : f 4 = .ptr (b 4) 0 0
  e7 : f 7 = .ptr (b 7) 0 0
  e8 : f 8 = .ptr (b 8) 0 0
  e9 : f 9 = .ptr (b 9) 0 0
  e10 : f 10 = .ptr (b 10) 0 0
  e11 : f 11 = .ptr (b 11) 0 0
  e12 : f 12 = .ptr (b 12) 0 0
  g3 : S.g (b 3) = some (.arr 4 [V.p])
  g4 : S.g (b 4) = some (.arr 4 [V.q])
  g7 : S.g (b 7) = some (.arr 4 [V.jn])
  g8 : S.g (b 8) = some (.arr 4 [V.or_])
  g9 : S.g (b 9) = some (.arr 4 [V.st])
  g10 : S.g (b 10) = some (.arr 4 [V.pl])
  g11 : S.g (b 11) = some (.arr 4 [V.mb])
  g12 : S.g (b 12) = some (.arr 4 [V.bo])
theorem RkS.same {l : List Int} {V : RkV} {b : Nat → Nat} {f f' : AF} {S S' : St} (h : RkS l V b f S) (hf : ∀ j, j = 2 ∨ j = 3 ∨ j = 4 ∨ j = 7 ∨ j = 8 ∨ j = 9 ∨ j = 10 ∨ j = 11 ∨ j = 12 → f' j = f j) (hg : S'.g = S.g) : RkS l V b f' S' :=
  ⟨by rw [hf 2 (by simp)]; exact h.e2, by rw [hf 3 (by simp)]; exact h.e3, by rw [hf 4 (by simp)]; exact h.e4, by rw [hf 7 (by simp)]; exact h.e7, by rw [hf 8 (by simp)]; exact h.e8, by rw [hf 9 (by simp)]; exact h.e9, by rw [hf 10 (by simp)]; exact h.e10, by rw [hf 11 (by simp)]; exact h.e11, by rw [hf 12 (by simp)]; exact h.e12,
    by rw [hg]; exact h.g3, by rw [hg]; exact h.g4, by rw [hg]; exact h.g7, by rw [hg]; exact h.g8, by rw [hg]; exact h.g9, by rw [hg]; exact h.g10, by rw [hg]; exact h.g11, by rw [hg]; exact h.g12⟩
/-- A value that is a form's. -/
def Fm (v : AV) : Prop := Closed v ∧ ∃ x1 x2 x3 x4, v = .agg [x1, x2, x3, x4]
structure RkF (V : RkV) : Prop where
  p : Fm V.p
  q : Fm V.q
  jn : Fm V.jn
  or_ : Fm V.or_
  st : Fm V.st
  pl : Fm V.pl
  mb : Fm V.mb
  bo : Fm V.bo
theorem RkC.of {P : Program} {fm : FuncId} {l : List Int} {v : AV} {p : Pat} (h : ∀ a b : Int, PureC P fm [encPat p, encIs l, encI a, encI b] (encB (matP p l a b))) (hw : Wk v (encPat p)) : RkC P fm l v p :=
  fun a b => (h a b).wk (.cons hw (.cons (.refl _) (.cons (.refl _) (.cons (.refl _) .nil))))
end Go.Rf

