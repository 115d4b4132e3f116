import Derived.Test.YtidkjfaeolfcaaaGreatRfN1
import Derived.Test.YtidkjfaeolfcaaaGreatRfKl
import Derived.Test.YtidkjfaeolfcaaaGreatRfR5
/- Own work: automata that may choose: how great they are, whether they are right, whether they are the same. -/
set_option linter.unusedVariables false
set_option linter.unusedSimpArgs false
namespace Go.Rf
open Go.RowKit
attribute [local simp] Z0h Z0c Z0d Z09 Z0a Z0i Z0b Z0f Z0g Z2z Z2y Z07 Z08 Z06 Z01 Z02 Z00 Z04 Z05 Z03 Z1z Z1y Z46 Z48 Z47 Z45 Z1n Z1o Z1m Z3n Z3k Z3m Z3l Z3o Z1l Z29 Z32 Z3x Z1i Z1j Z1k Z3v Z3w Z1g Z28 Z1h Z3i Z3f Z3h Z3g Z3j Z41 Z40 Z0t Z0u Z0v Z0s Z1f Z4c Z4b Z4d Z4a Z49 ex Z43 Z42 ev_t ev_c Z27 Z26 Z4e Z4f Z2m Z2l Z2f Z2j Z2k Z2g Z2h Z2i putc exBslice lfill exField exIdxV exIdxP exBox exAlloc exLoad exStore exFieldA exIdxA exLen exPick exUn exBeq exMM exSeq seqGo exExt binV intOp subc AV.solid S0 encI encB

structure Net where
  signs : Int
  by_ : List (List Int)
  follow : List (List Int)
  last : List Int
  deriving DecidableEq
def encNet (n : Net) : AV := .agg [encI n.signs, encIss n.by_, encIss n.follow, encIs n.last]
structure NetOk (n : Net) : Prop where
  by_ : Len n.by_
  follow : Len n.follow
  last : Len n.last
  byr : ∀ r ∈ n.by_, Len r
  followr : ∀ r ∈ n.follow, Len r
def rightN (n : Net) : Bool := decide (1 ≤ n.signs) && decide (n.signs ≤ 400) && decide (1 ≤ n.by_.length) && decide (n.by_.length ≤ 301) && decide (n.follow.length = n.by_.length) && decide ((n.by_.getD 0 []).length = 0) && risesB n.last 0 n.by_.length &&
  (List.range n.by_.length).all fun i => risesB (n.by_.getD i []) 0 n.signs && risesB (n.follow.getD i []) 1 n.by_.length
structure RightN (n : Net) : Prop where
  s1 : 1 ≤ n.signs
  s2 : n.signs ≤ 400
  n1 : 1 ≤ n.by_.length
  n2 : n.by_.length ≤ 301
  len : n.follow.length = n.by_.length
  by0 : n.by_.getD 0 [] = []
  last : RisesP n.last 0 n.by_.length
  by_ : ∀ i (h : i < n.by_.length), RisesP n.by_[i] 0 n.signs
  follow : ∀ i (h : i < n.follow.length), RisesP n.follow[i] 1 n.by_.length
def Net.rows (n : Net) : List (List Int) := n.last :: (n.by_ ++ n.follow)
end Go.Rf


/- Own work: automata that may choose: the states behind some, and what they accept. -/
set_option linter.unusedVariables false
set_option linter.unusedSimpArgs false
namespace Go.Rf
open Go.RowKit

def behS (n : Net) (sign : Int) (f : Int) : Bool := (n.by_.getD f.toNat []).contains sign
def behind1 (n : Net) (sign : Int) (p : Int) : List Int := if 0 ≤ p ∧ p < n.follow.length then (n.follow.getD p.toNat []).filter (behS n sign) else []
def behindL (n : Net) (at_ : List Int) (sign : Int) : List Int := at_.flatMap (behind1 n sign)
def stepN (n : Net) (at_ : List Int) (sign : Int) : List Int := setF (behindL n at_ sign)
structure StS (n : Net) (at_ : List Int) (sign : Int) (i : Nat) (cur : List Int) (f : AF) (S : St) : Prop where
  e12 : f 12 = encIs at_
  e13 : f 13 = encI at_.length
  e14 : f 14 = encI i
  e2 : f 2 = encI sign
  e3 : f 3 = .ptr 0 0 0
  g0 : S.g 0 = some (.arr 4 [encNet n])
  vec : Vec S.g (f 7) 1 (cur.map encI)
  out : 0 ∉ (f 7).ids
  n1 : 1 ≤ S.n
theorem StS.same {n : Net} {at_ : List Int} {sign : Int} {i : Nat} {cur : List Int} {f f' : AF} {S S' : St} (h : StS n at_ sign i cur f S) (hf : ∀ j, j = 12 ∨ j = 13 ∨ j = 14 ∨ j = 2 ∨ j = 3 ∨ j = 7 → f' j = f j) (hg : S'.g = S.g) (hn : S.n ≤ S'.n) : StS n at_ sign i cur f' S' :=
  ⟨by rw [hf _ (by simp)]; exact h.e12, by rw [hf _ (by simp)]; exact h.e13, by rw [hf _ (by simp)]; exact h.e14, by rw [hf _ (by simp)]; exact h.e2, by rw [hf _ (by simp)]; exact h.e3, by rw [hg]; exact h.g0, by rw [hg, hf _ (by simp)]; exact h.vec, by rw [hf _ (by simp)]; exact h.out, by have := h.n1; omega⟩
end Go.Rf


/- Own work: automata that may choose, as the document steps through them; what they accept. -/
set_option linter.unusedVariables false
set_option linter.unusedSimpArgs false
namespace Go.Rf
open Go.RowKit
attribute [local simp] Z0h Z0c Z0d Z09 Z0a Z0i Z0b Z0f Z0g Z2z Z2y Z07 Z08 Z06 Z01 Z02 Z00 Z04 Z05 Z03 Z1z Z1y Z46 Z48 Z47 Z45 Z1n Z1o Z1m Z3n Z3k Z3m Z3l Z3o Z1l Z29 Z32 Z3x Z1i Z1j Z1k Z3v Z3w Z1g Z28 Z1h Z3i Z3f Z3h Z3g Z3j Z41 Z40 Z0t Z0u Z0v Z0s Z1f Z4c Z4b Z4d Z4a Z49 ex Z43 Z42 ev_t ev_c Z27 Z26 Z4e Z4f Z2m Z2l Z2f Z2j Z2k Z2g Z2h Z2i putc exBslice lfill exField exIdxV exIdxP exBox exAlloc exLoad exStore exFieldA exIdxA exLen exPick exUn exBeq exMM exSeq seqGo exExt binV intOp subc AV.solid S0 encI encB

structure RsS (n : Net) (at_ : List Int) (sign : Int) (i : Nat) (cur : List Int) (f : AF) (S : St) : Prop where
  e1 : f 1 = encIs at_
  e8 : f 8 = encI i
  e2 : f 2 = encI sign
  e3 : f 3 = .ptr 0 0 0
  e7 : Iv S.g (f 7) cur
  g0 : S.g 0 = some (.arr 4 [encNet n])
  out : 0 ∉ (f 7).ids
theorem RsS.same {n : Net} {at_ : List Int} {sign : Int} {i : Nat} {cur : List Int} {f f' : AF} {S S' : St} (h : RsS n at_ sign i cur f S) (hf : ∀ j, j = 1 ∨ j = 8 ∨ j = 2 ∨ j = 3 ∨ j = 7 → f' j = f j) (hg : S'.g = S.g) : RsS n at_ sign i cur f' S' :=
  ⟨by rw [hf _ (by simp)]; exact h.e1, by rw [hf _ (by simp)]; exact h.e8, by rw [hf _ (by simp)]; exact h.e2, by rw [hf _ (by simp)]; exact h.e3, by rw [hg, hf _ (by simp)]; exact h.e7, by rw [hg]; exact h.g0, by rw [hf _ (by simp)]; exact h.out⟩
theorem stepN_len {n : Net} (R : RightN n) (l : List Int) (sign : Int) : (stepN n l sign).length ≤ 301 := by
  have hm : ∀ x ∈ stepN n l sign, (1 : Int) ≤ x ∧ x < n.by_.length := by
    intro x hx
    have hx := mem_setF.mp hx
    simp only [behindL, List.mem_flatMap] at hx
    obtain ⟨p, hp, hx⟩ := hx
    unfold behind1 at hx
    split at hx
    · rename_i h
      have hpl : p.toNat < n.follow.length := by omega
      rw [List.getD_eq_getElem?_getD, List.getElem?_eq_getElem hpl] at hx
      exact (R.follow _ hpl).2 x (List.mem_filter.mp hx).1
    · simp at hx
  have := pw_len (setF_pw (behindL n l sign)) hm
  have := R.n2
  show (setF (behindL n l sign)).length ≤ 301
  omega
def runN (n : Net) (l : List Int) : List Int := l.foldl (stepN n) [0]
def IsSl (v : AV) (l : List Int) : Prop := ∃ t, v = .sl t (l.map encI)
end Go.Rf


/- Own work: automata, the other way round: beginnings that are accepted. -/
set_option linter.unusedVariables false
set_option linter.unusedSimpArgs false
namespace Go.Rf
open Go.RowKit
attribute [local simp] Z0h Z0c Z0d Z09 Z0a Z0i Z0b Z0f Z0g Z2z Z2y Z07 Z08 Z06 Z01 Z02 Z00 Z04 Z05 Z03 Z1z Z1y Z46 Z48 Z47 Z45 Z1n Z1o Z1m Z3n Z3k Z3m Z3l Z3o Z1l Z29 Z32 Z3x Z1i Z1j Z1k Z3v Z3w Z1g Z28 Z1h Z3i Z3f Z3h Z3g Z3j Z41 Z40 Z0t Z0u Z0v Z0s Z1f Z4c Z4b Z4d Z4a Z49 ex Z43 Z42 ev_t ev_c Z27 Z26 Z4e Z4f Z2m Z2l Z2f Z2j Z2k Z2g Z2h Z2i putc exBslice lfill exField exIdxV exIdxP exBox exAlloc exLoad exStore exFieldA exIdxA exLen exPick exUn exBeq exMM exSeq seqGo exExt binV intOp subc AV.solid S0 encI encB

structure HdS (n : Net) (l : List Int) (ft f1 : FuncId) (b c : Nat) (i : Nat) (f : AF) (S : St) : Prop where
  e1 : f 1 = encIs l
  e2 : f 2 = .clo ft [] [.ptr c 0 0]
  e3 : f 3 = .ptr b 0 0
  e6 : IsSl (f 6) (runN n (l.take i))
  e7 : f 7 = .clo f1 [] [.ptr b 0 0]
  e8 : f 8 = encI i
  gb : S.g b = some (.arr 4 [encNet n])
  bc : b ≠ c
  bn : b < S.n
  cn : c < S.n
theorem HdS.same {n : Net} {l : List Int} {ft f1 : FuncId} {b c i : Nat} {f f' : AF} {S S' : St} (h : HdS n l ft f1 b c i f S) (hf : ∀ j, j = 1 ∨ j = 2 ∨ j = 3 ∨ j = 6 ∨ j = 7 ∨ j = 8 → f' j = f j) (hg : S'.g b = S.g b) (hn : S.n ≤ S'.n) : HdS n l ft f1 b c i f' S' :=
  ⟨by rw [hf _ (by simp)]; exact h.e1, by rw [hf _ (by simp)]; exact h.e2, by rw [hf _ (by simp)]; exact h.e3, by rw [hf _ (by simp)]; exact h.e6, by rw [hf _ (by simp)]; exact h.e7, by rw [hf _ (by simp)]; exact h.e8, by rw [hg]; exact h.gb, h.bc, by have := h.bn; omega, by have := h.cn; omega⟩
structure HHd (P : Program) (n : Net) (fr f1 fc fs : FuncId) : Prop where
  right : PureC P fr [encNet n] (encB (rightN n))
  cont : ∀ a : List Int, Len a → PureC P fc [encIs a, .clo f1 [] [.eptr (encNet n) 0]] (encB (a.any fun s => n.last.contains s))
  step : RightN n → ∀ (a : List Int) s, a.length ≤ 3000 → PureC P fs [encNet n, encIs a, encI s] (encIs (stepN n a s))
end Go.Rf


/- Own work: forms the other way round; where a rule matches. -/
set_option linter.unusedVariables false
set_option linter.unusedSimpArgs false
namespace Go.Rf
open Go.RowKit

structure Rul where
  num : Int
  cut : Bool
  before : Pat
  after : Pat
  pos : Int
def encRul (r : Rul) : AV := .agg ([encI r.num, encB r.cut] ++ (encPat r.before).cells ++ (encPat r.after).cells ++ [encI r.pos])
end Go.Rf


/- Own work: which rule decides. -/
set_option linter.unusedVariables false
set_option linter.unusedSimpArgs false
namespace Go.Rf
open Go.RowKit

/-- A book: names, rules, what is allowed, names used. -/
structure Bk where
  vars : AV
  rules : List Rul
  allows : AV
  used : AV
structure BkOk (x : Bk) : Prop where
  v : Closed x.vars
  a : Closed x.allows
  u : Closed x.used
  vc : x.vars.cells = [x.vars]
  ac : x.allows.cells = [x.allows]
  uc : x.used.cells = [x.used]
def encBk (x : Bk) : AV := .agg [x.vars, .sl false (x.rules.map encRul), x.allows, x.used]
end Go.Rf


/- Own work: VerdictOne, gone through. -/
set_option linter.unusedVariables false
set_option linter.unusedSimpArgs false
namespace Go.Rf
open Go.RowKit

structure VoS (x : Bk) (l : List Int) (at_ d : Int) (c5 : AV) (n6 : Int) (f : AF) (S : St) : Prop where
  e1 : f 1 = encIs l
  e2 : f 2 = .ptr 0 0 0
  e5 : f 5 = c5
  e6 : f 6 = encI n6
  e7 : f 7 = encI at_
  e8 : f 8 = encI d
  g0 : S.g 0 = some (.arr 4 [encBk x])
theorem VoS.same {x : Bk} {l : List Int} {at_ d : Int} {c5 : AV} {n6 : Int} {f f' : AF} {S S' : St} (h : VoS x l at_ d c5 n6 f S) (hf : ∀ j, j = 1 ∨ j = 2 ∨ j = 5 ∨ j = 6 ∨ j = 7 ∨ j = 8 → f' j = f j) (hg : S'.g = S.g) : VoS x l at_ d c5 n6 f' S' :=
  ⟨by rw [hf _ (by simp)]; exact h.e1, by rw [hf _ (by simp)]; exact h.e2, by rw [hf _ (by simp)]; exact h.e5, by rw [hf _ (by simp)]; exact h.e6, by rw [hf _ (by simp)]; exact h.e7, by rw [hf _ (by simp)]; exact h.e8, by rw [hg]; exact h.g0⟩
end Go.Rf

