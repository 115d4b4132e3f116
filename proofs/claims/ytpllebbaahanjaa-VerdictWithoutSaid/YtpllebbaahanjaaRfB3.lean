import Derived.Test.YtpllebbaahanjaaRfUse
set_option linter.unusedVariables false
set_option linter.unusedSimpArgs false
namespace Go.Rf
def idxF {X : Type} (p : X → Bool) (l : List X) : Int := if l.any p = true then (l.findIdx p : Int) else -1
def idxI {X : Type} (enc : X → AV) (l : List X) (p : X → Bool) (g : FuncId) (cap : List AV) (m : Nat) (f : AF) (S : St) : Prop :=
  ∃ i : Nat, i ≤ l.length ∧ m = l.length - i ∧ f 8 = encI i ∧ f 7 = encI l.length ∧ f 0 = .sl false (l.map enc) ∧ f 1 = .clo g [] cap ∧ ∀ k (h : k < l.length), k < i → p l[k] = false
theorem idxF_nonneg {X : Type} (p : X → Bool) (l : List X) : decide (0 ≤ idxF p l) = l.any p := by
  unfold idxF
  cases h : l.any p with
  | true => simp
  | false => simp
end Go.Rf

