import Derived.Test.YtfmmdlockfbfmaaRfN4
import Derived.Test.YtfmmdlockfbfmaaRfKl
/- Own work: automata, the other way round: beginnings that are accepted. -/
set_option linter.unusedVariables false
set_option linter.unusedSimpArgs false
namespace Go.Rf
open Go.RowKit

structure HdS (n : Net) (l : List Int) (ft f1 : FuncId) (b c : Nat) (i : Nat) (f : AF) (S : St) : Prop where
  e1 : f 1 = encIs l
  e2 : f 2 = .clo ft [] [.ptr c 0 0]
  e3 : f 3 = .ptr b 0 0
  e6 : IsSl (f 6) (runN n (l.take i))
  e7 : f 7 = .clo f1 [] [.ptr b 0 0]
  e8 : f 8 = encI i
  gb : S.g b = some (.arr 4 [encNet n])
  bc : b ≠ c
  bn : b < S.n
  cn : c < S.n
theorem HdS.same {n : Net} {l : List Int} {ft f1 : FuncId} {b c i : Nat} {f f' : AF} {S S' : St} (h : HdS n l ft f1 b c i f S) (hf : ∀ j, j = 1 ∨ j = 2 ∨ j = 3 ∨ j = 6 ∨ j = 7 ∨ j = 8 → f' j = f j) (hg : S'.g b = S.g b) (hn : S.n ≤ S'.n) : HdS n l ft f1 b c i f' S' :=
  ⟨by rw [hf _ (by simp)]; exact h.e1, by rw [hf _ (by simp)]; exact h.e2, by rw [hf _ (by simp)]; exact h.e3, by rw [hf _ (by simp)]; exact h.e6, by rw [hf _ (by simp)]; exact h.e7, by rw [hf _ (by simp)]; exact h.e8, by rw [hg]; exact h.gb, h.bc, by have := h.bn; omega, by have := h.cn; omega⟩
structure HHd (P : Program) (n : Net) (fr f1 fc fs : FuncId) : Prop where
  right : PureC P fr [encNet n] (encB (rightN n))
  cont : ∀ a : List Int, Len a → PureC P fc [encIs a, .clo f1 [] [.eptr (encNet n) 0]] (encB (a.any fun s => n.last.contains s))
  step : RightN n → ∀ (a : List Int) s, a.length ≤ 3000 → PureC P fs [encNet n, encIs a, encI s] (encIs (stepN n a s))
end Go.Rf

