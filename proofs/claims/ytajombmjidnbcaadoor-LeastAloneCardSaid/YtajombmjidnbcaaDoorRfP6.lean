import Derived.Test.YtajombmjidnbcaaDoorRfG1
import Derived.Test.YtajombmjidnbcaaDoorRfWk
import Derived.Test.YtajombmjidnbcaaDoorRfP5
/- Own work: nets read back out of values, whatever the kind of their lists. -/
set_option linter.unusedVariables false
namespace Go.Rf

def dI : AV → Option Int
  | .v (.int .i64 n) => some n
  | _ => none
def dIL : List AV → Option (List Int)
  | [] => some []
  | x :: xs => match dI x, dIL xs with
    | some n, some l => some (n :: l)
    | _, _ => none
def dIs : AV → Option (List Int)
  | .sl _ xs => dIL xs
  | _ => none
def dIsL : List AV → Option (List (List Int))
  | [] => some []
  | x :: xs => match dIs x, dIsL xs with
    | some n, some l => some (n :: l)
    | _, _ => none
def dIss : AV → Option (List (List Int))
  | .sl _ xs => dIsL xs
  | _ => none
theorem dI_eq {x : AV} {n : Int} (h : dI x = some n) : x = encI n := by
  unfold dI at h
  split at h
  · cases h; rfl
  · cases h
theorem dIL_eq : ∀ {xs : List AV} {l : List Int}, dIL xs = some l → xs = l.map encI
  | [], l, h => by cases h; rfl
  | x :: xs, l, h => by
    unfold dIL at h
    split at h
    · rename_i n l' h1 h2
      cases h
      rw [dI_eq h1, dIL_eq h2]; rfl
    · cases h
theorem dIs_wk {x : AV} {l : List Int} (h : dIs x = some l) : Wk x (encIs l) := by
  unfold dIs at h
  split at h
  · rw [dIL_eq h]; exact Wk.sl' (WkL.refl _)
  · cases h
theorem dIsL_wk : ∀ {xs : List AV} {l : List (List Int)}, dIsL xs = some l → WkL xs (l.map encIs)
  | [], l, h => by cases h; exact WkL.nil
  | x :: xs, l, h => by
    unfold dIsL at h
    split at h
    · rename_i n l' h1 h2
      cases h
      exact WkL.cons (dIs_wk h1) (dIsL_wk h2)
    · cases h
theorem dIss_wk {x : AV} {l : List (List Int)} (h : dIss x = some l) : Wk x (encIss l) := by
  unfold dIss at h
  split at h
  · exact Wk.sl' (dIsL_wk h)
  · cases h
end Go.Rf


/- Own work: LeastMakes. -/
set_option linter.unusedVariables false
set_option linter.unusedSimpArgs false
namespace Go.Rf
open Go.RowKit
theorem rightD_ok {d : Det} (R : RightD d) : DetOk d := by
  have h1 := R.n2
  have h2 := R.fin
  have h3 := R.s1
  have h4 := R.s2
  refine ⟨by unfold Len; omega, by unfold Len; omega, fun r hr => ?_, by omega⟩
  obtain ⟨i, hi, rfl⟩ := List.getElem_of_mem hr
  have := R.row i hi
  unfold Len; omega
end Go.Rf

