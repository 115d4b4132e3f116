import Derived.Test.YtajombmjidnbcaaDoorRfE8
import Derived.Test.YtajombmjidnbcaaDoorRfWk
/- Own work: nets read back out of values, whatever the kind of their lists. -/
set_option linter.unusedVariables false
namespace Go.Rf

def dI : AV → Option Int
  | .v (.int .i64 n) => some n
  | _ => none
def dIL : List AV → Option (List Int)
  | [] => some []
  | x :: xs => match dI x, dIL xs with
    | some n, some l => some (n :: l)
    | _, _ => none
def dIs : AV → Option (List Int)
  | .sl _ xs => dIL xs
  | _ => none
def dIsL : List AV → Option (List (List Int))
  | [] => some []
  | x :: xs => match dIs x, dIsL xs with
    | some n, some l => some (n :: l)
    | _, _ => none
def dIss : AV → Option (List (List Int))
  | .sl _ xs => dIsL xs
  | _ => none
theorem dI_eq {x : AV} {n : Int} (h : dI x = some n) : x = encI n := by
  unfold dI at h
  split at h
  · cases h; rfl
  · cases h
theorem dIL_eq : ∀ {xs : List AV} {l : List Int}, dIL xs = some l → xs = l.map encI
  | [], l, h => by cases h; rfl
  | x :: xs, l, h => by
    unfold dIL at h
    split at h
    · rename_i n l' h1 h2
      cases h
      rw [dI_eq h1, dIL_eq h2]; rfl
    · cases h
theorem dIs_wk {x : AV} {l : List Int} (h : dIs x = some l) : Wk x (encIs l) := by
  unfold dIs at h
  split at h
  · rw [dIL_eq h]; exact Wk.sl' (WkL.refl _)
  · cases h
theorem dIsL_wk : ∀ {xs : List AV} {l : List (List Int)}, dIsL xs = some l → WkL xs (l.map encIs)
  | [], l, h => by cases h; exact WkL.nil
  | x :: xs, l, h => by
    unfold dIsL at h
    split at h
    · rename_i n l' h1 h2
      cases h
      exact WkL.cons (dIs_wk h1) (dIsL_wk h2)
    · cases h
theorem dIss_wk {x : AV} {l : List (List Int)} (h : dIss x = some l) : Wk x (encIss l) := by
  unfold dIss at h
  split at h
  · exact Wk.sl' (dIsL_wk h)
  · cases h
end Go.Rf

