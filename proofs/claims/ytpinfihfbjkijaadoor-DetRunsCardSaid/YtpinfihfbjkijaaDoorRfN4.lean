import Derived.Test.YtpinfihfbjkijaaDoorRfN2
/- Own work: automata that may choose: the states behind some, and what they accept. -/
set_option linter.unusedVariables false
set_option linter.unusedSimpArgs false
namespace Go.Rf
open Go.RowKit

def behS (n : Net) (sign : Int) (f : Int) : Bool := (n.by_.getD f.toNat []).contains sign
def behind1 (n : Net) (sign : Int) (p : Int) : List Int := if 0 ≤ p ∧ p < n.follow.length then (n.follow.getD p.toNat []).filter (behS n sign) else []
def behindL (n : Net) (at_ : List Int) (sign : Int) : List Int := at_.flatMap (behind1 n sign)
def stepN (n : Net) (at_ : List Int) (sign : Int) : List Int := setF (behindL n at_ sign)
theorem follow_at {n : Net} (R : RightN n) {p k : Nat} (hp : p < n.follow.length) (hk : k < (n.follow[p]).length) : 1 ≤ (n.follow[p])[k] ∧ (n.follow[p])[k] < n.by_.length := (R.follow p hp).2 _ (List.getElem_mem hk)
theorem follow_len {n : Net} (R : RightN n) {p : Nat} (hp : p < n.follow.length) : (n.follow[p]).length ≤ 301 := by
  have := pw_len (R.follow p hp).1 (R.follow p hp).2
  have := R.n2
  omega
structure StS (n : Net) (at_ : List Int) (sign : Int) (i : Nat) (cur : List Int) (f : AF) (S : St) : Prop where
  e12 : f 12 = encIs at_
  e13 : f 13 = encI at_.length
  e14 : f 14 = encI i
  e2 : f 2 = encI sign
  e3 : f 3 = .ptr 0 0 0
  g0 : S.g 0 = some (.arr 4 [encNet n])
  vec : Vec S.g (f 7) 1 (cur.map encI)
  out : 0 ∉ (f 7).ids
  n1 : 1 ≤ S.n
theorem StS.same {n : Net} {at_ : List Int} {sign : Int} {i : Nat} {cur : List Int} {f f' : AF} {S S' : St} (h : StS n at_ sign i cur f S) (hf : ∀ j, j = 12 ∨ j = 13 ∨ j = 14 ∨ j = 2 ∨ j = 3 ∨ j = 7 → f' j = f j) (hg : S'.g = S.g) (hn : S.n ≤ S'.n) : StS n at_ sign i cur f' S' :=
  ⟨by rw [hf _ (by simp)]; exact h.e12, by rw [hf _ (by simp)]; exact h.e13, by rw [hf _ (by simp)]; exact h.e14, by rw [hf _ (by simp)]; exact h.e2, by rw [hf _ (by simp)]; exact h.e3, by rw [hg]; exact h.g0, by rw [hg, hf _ (by simp)]; exact h.vec, by rw [hf _ (by simp)]; exact h.out, by have := h.n1; omega⟩
theorem behindL_take {n : Net} {at_ : List Int} {sign : Int} {i : Nat} (h : i < at_.length) : behindL n (at_.take (i + 1)) sign = behindL n (at_.take i) sign ++ behind1 n sign at_[i] := by
  rw [List.take_add_one, List.getElem?_eq_getElem h]
  unfold behindL
  rw [List.flatMap_append]
  simp only [Option.toList_some, List.flatMap_cons, List.flatMap_nil, List.append_nil]
theorem behind1_len {n : Net} (R : RightN n) (sign p : Int) : (behind1 n sign p).length ≤ 301 := by
  unfold behind1
  split
  · rename_i h
    have hp : p.toNat < n.follow.length := by omega
    have := follow_len R hp
    have h2 := List.length_filter_le (behS n sign) (n.follow.getD p.toNat [])
    rw [List.getD_eq_getElem?_getD, List.getElem?_eq_getElem hp] at h2 ⊢
    simp only [Option.getD_some] at h2 ⊢; omega
  · simp
theorem behindL_len {n : Net} (R : RightN n) (sign : Int) : ∀ (l : List Int), (behindL n l sign).length ≤ 301 * l.length
  | [] => by simp [behindL]
  | p :: l => by
    have h1 := behind1_len R sign p
    have h2 := behindL_len R sign l
    simp only [behindL, List.flatMap_cons, List.length_append, List.length_cons] at h2 ⊢
    omega
end Go.Rf


/- Own work: automata that may choose, as the document steps through them; what they accept. -/
set_option linter.unusedVariables false
set_option linter.unusedSimpArgs false
namespace Go.Rf
open Go.RowKit

def putAll (o l : List Int) : List Int := l.foldl putF o
structure RsS (n : Net) (at_ : List Int) (sign : Int) (i : Nat) (cur : List Int) (f : AF) (S : St) : Prop where
  e1 : f 1 = encIs at_
  e8 : f 8 = encI i
  e2 : f 2 = encI sign
  e3 : f 3 = .ptr 0 0 0
  e7 : Iv S.g (f 7) cur
  g0 : S.g 0 = some (.arr 4 [encNet n])
  out : 0 ∉ (f 7).ids
theorem RsS.same {n : Net} {at_ : List Int} {sign : Int} {i : Nat} {cur : List Int} {f f' : AF} {S S' : St} (h : RsS n at_ sign i cur f S) (hf : ∀ j, j = 1 ∨ j = 8 ∨ j = 2 ∨ j = 3 ∨ j = 7 → f' j = f j) (hg : S'.g = S.g) : RsS n at_ sign i cur f' S' :=
  ⟨by rw [hf _ (by simp)]; exact h.e1, by rw [hf _ (by simp)]; exact h.e8, by rw [hf _ (by simp)]; exact h.e2, by rw [hf _ (by simp)]; exact h.e3, by rw [hg, hf _ (by simp)]; exact h.e7, by rw [hg]; exact h.g0, by rw [hf _ (by simp)]; exact h.out⟩
theorem stepN_len {n : Net} (R : RightN n) (l : List Int) (sign : Int) : (stepN n l sign).length ≤ 301 := by
  have hm : ∀ x ∈ stepN n l sign, (1 : Int) ≤ x ∧ x < n.by_.length := by
    intro x hx
    have hx := mem_setF.mp hx
    simp only [behindL, List.mem_flatMap] at hx
    obtain ⟨p, hp, hx⟩ := hx
    unfold behind1 at hx
    split at hx
    · rename_i h
      have hpl : p.toNat < n.follow.length := by omega
      rw [List.getD_eq_getElem?_getD, List.getElem?_eq_getElem hpl] at hx
      exact (R.follow _ hpl).2 x (List.mem_filter.mp hx).1
    · simp at hx
  have := pw_len (setF_pw (behindL n l sign)) hm
  have := R.n2
  show (setF (behindL n l sign)).length ≤ 301
  omega
theorem putAll_set (l : List Int) : putAll [] l = setF l := putAll_eq l
end Go.Rf

