import Derived.Test.YtfmmdlockfbfmaaRfN2
/- Own work: automata that may choose: the states behind some, and what they accept. -/
set_option linter.unusedVariables false
set_option linter.unusedSimpArgs false
namespace Go.Rf
open Go.RowKit

def behS (n : Net) (sign : Int) (f : Int) : Bool := (n.by_.getD f.toNat []).contains sign
def behind1 (n : Net) (sign : Int) (p : Int) : List Int := if 0 ≤ p ∧ p < n.follow.length then (n.follow.getD p.toNat []).filter (behS n sign) else []
def behindL (n : Net) (at_ : List Int) (sign : Int) : List Int := at_.flatMap (behind1 n sign)
def stepN (n : Net) (at_ : List Int) (sign : Int) : List Int := setF (behindL n at_ sign)
structure StS (n : Net) (at_ : List Int) (sign : Int) (i : Nat) (cur : List Int) (f : AF) (S : St) : Prop where
  e12 : f 12 = encIs at_
  e13 : f 13 = encI at_.length
  e14 : f 14 = encI i
  e2 : f 2 = encI sign
  e3 : f 3 = .ptr 0 0 0
  g0 : S.g 0 = some (.arr 4 [encNet n])
  vec : Vec S.g (f 7) 1 (cur.map encI)
  out : 0 ∉ (f 7).ids
  n1 : 1 ≤ S.n
theorem StS.same {n : Net} {at_ : List Int} {sign : Int} {i : Nat} {cur : List Int} {f f' : AF} {S S' : St} (h : StS n at_ sign i cur f S) (hf : ∀ j, j = 12 ∨ j = 13 ∨ j = 14 ∨ j = 2 ∨ j = 3 ∨ j = 7 → f' j = f j) (hg : S'.g = S.g) (hn : S.n ≤ S'.n) : StS n at_ sign i cur f' S' :=
  ⟨by rw [hf _ (by simp)]; exact h.e12, by rw [hf _ (by simp)]; exact h.e13, by rw [hf _ (by simp)]; exact h.e14, by rw [hf _ (by simp)]; exact h.e2, by rw [hf _ (by simp)]; exact h.e3, by rw [hg]; exact h.g0, by rw [hg, hf _ (by simp)]; exact h.vec, by rw [hf _ (by simp)]; exact h.out, by have := h.n1; omega⟩
end Go.Rf


/- Own work: automata that may choose, as the document steps through them; what they accept. -/
set_option linter.unusedVariables false
set_option linter.unusedSimpArgs false
namespace Go.Rf
open Go.RowKit

structure RsS (n : Net) (at_ : List Int) (sign : Int) (i : Nat) (cur : List Int) (f : AF) (S : St) : Prop where
  e1 : f 1 = encIs at_
  e8 : f 8 = encI i
  e2 : f 2 = encI sign
  e3 : f 3 = .ptr 0 0 0
  e7 : Iv S.g (f 7) cur
  g0 : S.g 0 = some (.arr 4 [encNet n])
  out : 0 ∉ (f 7).ids
theorem RsS.same {n : Net} {at_ : List Int} {sign : Int} {i : Nat} {cur : List Int} {f f' : AF} {S S' : St} (h : RsS n at_ sign i cur f S) (hf : ∀ j, j = 1 ∨ j = 8 ∨ j = 2 ∨ j = 3 ∨ j = 7 → f' j = f j) (hg : S'.g = S.g) : RsS n at_ sign i cur f' S' :=
  ⟨by rw [hf _ (by simp)]; exact h.e1, by rw [hf _ (by simp)]; exact h.e8, by rw [hf _ (by simp)]; exact h.e2, by rw [hf _ (by simp)]; exact h.e3, by rw [hg, hf _ (by simp)]; exact h.e7, by rw [hg]; exact h.g0, by rw [hf _ (by simp)]; exact h.out⟩
def runN (n : Net) (l : List Int) : List Int := l.foldl (stepN n) [0]
def IsSl (v : AV) (l : List Int) : Prop := ∃ t, v = .sl t (l.map encI)
end Go.Rf

