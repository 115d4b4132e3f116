import Derived.Test.YtpinfihfbjkijaaDoorRfVec
import Derived.Test.YtpinfihfbjkijaaDoorRfCell
import Derived.Test.YtpinfihfbjkijaaDoorRfKl
set_option linter.unusedVariables false
set_option linter.unusedSimpArgs false
namespace Go.Rf
/-! ### ranges -/
structure Rg where
  low : Int
  high : Int
deriving DecidableEq
def encR (r : Rg) : AV := .agg [encI r.low, encI r.high]
def encRs (l : List Rg) : AV := .sl false (l.map encR)
def encRss (l : List (List Rg)) : AV := .sl false (l.map encRs)
def inR (r : Rg) (c : Int) : Bool := decide (r.low ≤ c) && decide (c ≤ r.high)
def hasIn (l : List Rg) (c : Int) : Bool := l.any fun r => inR r c
def hasR (l : List Rg) (c : Int) : Bool := decide (0 ≤ c) && decide (c ≤ 1114111) && decide (l.length ≤ 400) && hasIn l c
def putF : List Int → Int → List Int
  | [], n => [n]
  | x :: l, n => if x < n then x :: putF l n else if x = n then x :: l else n :: x :: l
/-! ### the edges -/
def Iv (g : Nat → Option Blk) (v : AV) (l : List Int) : Prop := (∃ t, v = .sl t (l.map encI)) ∨ Vec g v 1 (l.map encI)
theorem Iv.frame {g g' : Nat → Option Blk} {v : AV} {l : List Int} (h : Iv g v l) (hs : ∀ i ∈ v.ids, g' i = g i) : Iv g' v l := by
  rcases h with h | h
  · exact .inl h
  · exact .inr (h.frame hs)
theorem Iv.fz {g : Nat → Option Blk} {v : AV} {l : List Int} (h : Iv g v l) : Fz g v (encIs l) := by
  rcases h with ⟨t, rfl⟩ | h
  · exact .loose t _ (closed_map closed_I l)
  · exact h.fz closed_I
theorem Iv.only {g : Nat → Option Blk} {v : AV} {l : List Int} (h : Iv g v l) : Iv (only v.ids g) v l := h.frame (fun i hi => by rw [only_g, if_pos hi])
def edge1 (out : List Int) (r : Rg) : List Int := if 0 ≤ r.low ∧ r.low ≤ 1114111 then putF out r.low else out
def edge2 (out : List Int) (r : Rg) : List Int := if -1 ≤ r.high ∧ r.high < 1114111 then putF out (r.high + 1) else out
def edgeS (out : List Int) (l : List Rg) : List Int := if l.length ≤ 400 then l.foldl (fun o r => edge2 (edge1 o r) r) out else out
def edgesF (sets : List (List Rg)) : List Int := sets.foldl edgeS [0]
structure ER (sets : List (List Rg)) (i k c : Nat) (r : Rg) (cur : List Int) (f : AF) (S : St) : Prop where
  e0 : f 0 = encRss sets
  e4 : f 4 = encI i
  e5 : f 5 = encI k
  e6 : f 6 = .ptr c 0 0
  gc : S.g c = some (.arr 2 [encR r])
  v : Iv S.g (f 3) cur
  ids : ∀ x ∈ (f 3).ids, x < S.n ∧ x ≠ c
structure EB (sets : List (List Rg)) (i k : Nat) (cur : List Int) (f : AF) (S : St) : Prop where
  e0 : f 0 = encRss sets
  e4 : f 4 = encI i
  e5 : f 5 = encI k
  v : Iv S.g (f 3) cur
  ids : ∀ x ∈ (f 3).ids, x < S.n
end Go.Rf
