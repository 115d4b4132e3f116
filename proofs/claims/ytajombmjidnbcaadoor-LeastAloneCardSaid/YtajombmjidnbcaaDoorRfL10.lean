import Derived.Test.YtajombmjidnbcaaDoorRfCell
import Derived.Test.YtajombmjidnbcaaDoorRfB3
/- Own work: a call in a region whose order is drawn, all plain data. -/
set_option linter.unusedVariables false
namespace Go.Rf
theorem CallD.kl {P : Program} {f : FuncId} {args : List AV} {r : AV} {S : St} (h : PureC P f args r) (hc : ∀ x ∈ args, Closed x) (hr : Closed r) : CallD P f args S [] r :=
  ⟨args, h, rfl, fun j h1 _ => .closed _ (hc _ (List.getElem_mem h1)), .inr (.inl ⟨rfl, hr⟩)⟩
end Go.Rf


set_option linter.unusedVariables false
set_option linter.unusedSimpArgs false
namespace Go.Rf
/-! ### ranges -/
structure Rg where
  low : Int
  high : Int
deriving DecidableEq
def encR (r : Rg) : AV := .agg [encI r.low, encI r.high]
def encRs (l : List Rg) : AV := .sl false (l.map encR)
def encRss (l : List (List Rg)) : AV := .sl false (l.map encRs)
def inR (r : Rg) (c : Int) : Bool := decide (r.low ≤ c) && decide (c ≤ r.high)
def hasIn (l : List Rg) (c : Int) : Bool := l.any fun r => inR r c
def hasR (l : List Rg) (c : Int) : Bool := decide (0 ≤ c) && decide (c ≤ 1114111) && decide (l.length ≤ 400) && hasIn l c
def putF : List Int → Int → List Int
  | [], n => [n]
  | x :: l, n => if x < n then x :: putF l n else if x = n then x :: l else n :: x :: l
/-! ### the edges -/
def Iv (g : Nat → Option Blk) (v : AV) (l : List Int) : Prop := (∃ t, v = .sl t (l.map encI)) ∨ Vec g v 1 (l.map encI)
theorem Iv.frame {g g' : Nat → Option Blk} {v : AV} {l : List Int} (h : Iv g v l) (hs : ∀ i ∈ v.ids, g' i = g i) : Iv g' v l := by
  rcases h with h | h
  · exact .inl h
  · exact .inr (h.frame hs)
theorem Iv.fz {g : Nat → Option Blk} {v : AV} {l : List Int} (h : Iv g v l) : Fz g v (encIs l) := by
  rcases h with ⟨t, rfl⟩ | h
  · exact .loose t _ (closed_map Z2r l)
  · exact h.fz Z2r
theorem Iv.only {g : Nat → Option Blk} {v : AV} {l : List Int} (h : Iv g v l) : Iv (only v.ids g) v l := h.frame (fun i hi => by rw [only_g, if_pos hi])
def edge1 (out : List Int) (r : Rg) : List Int := if 0 ≤ r.low ∧ r.low ≤ 1114111 then putF out r.low else out
def edge2 (out : List Int) (r : Rg) : List Int := if -1 ≤ r.high ∧ r.high < 1114111 then putF out (r.high + 1) else out
def edgeS (out : List Int) (l : List Rg) : List Int := if l.length ≤ 400 then l.foldl (fun o r => edge2 (edge1 o r) r) out else out
def edgesF (sets : List (List Rg)) : List Int := sets.foldl edgeS [0]
structure ER (sets : List (List Rg)) (i k c : Nat) (r : Rg) (cur : List Int) (f : AF) (S : St) : Prop where
  e0 : f 0 = encRss sets
  e4 : f 4 = encI i
  e5 : f 5 = encI k
  e6 : f 6 = .ptr c 0 0
  gc : S.g c = some (.arr 2 [encR r])
  v : Iv S.g (f 3) cur
  ids : ∀ x ∈ (f 3).ids, x < S.n ∧ x ≠ c
structure EB (sets : List (List Rg)) (i k : Nat) (cur : List Int) (f : AF) (S : St) : Prop where
  e0 : f 0 = encRss sets
  e4 : f 4 = encI i
  e5 : f 5 = encI k
  v : Iv S.g (f 3) cur
  ids : ∀ x ∈ (f 3).ids, x < S.n
end Go.Rf

set_option linter.unusedVariables false
set_option linter.unusedSimpArgs false
namespace Go.Rf
def condK (kind : Int) (x y : Bool) : Bool := (kind == 0 && (!x && !y)) || (kind == 1 && (!x || !y)) || (kind == 2 && (!x || y))
def lastR (out : List Rg) : Rg := out.getD (out.length - 1) ⟨0, 0⟩
def addR (out : List Rg) (lo hi : Int) : List Rg := if 0 < out.length ∧ (lastR out).high + 1 = lo then out.set (out.length - 1) ⟨(lastR out).low, hi⟩ else out ++ [⟨lo, hi⟩]
def toE (e : List Int) (i : Nat) : Int := if i + 1 < e.length then e.getD (i + 1) 0 - 1 else 1114111
def made1 (a b : List Rg) (kind : Int) (e : List Int) (out : List Rg) (i : Nat) : List Rg :=
  if condK kind (hasR a (e.getD i 0)) (hasR b (e.getD i 0)) = true then out else addR out (e.getD i 0) (toE e i)
def madeF (a b : List Rg) (kind : Int) : List Rg := (List.range (edgesF [a, b]).length).foldl (made1 a b kind (edgesF [a, b])) []
/-- What made has so far. -/
structure MSt (a b : List Rg) (kind : Int) (e : List Int) (i : Nat) (out : List Rg) (f : AF) (S : St) : Prop where
  e0 : f 0 = encRs a
  e1 : f 1 = encRs b
  e2 : f 2 = encI kind
  e8 : f 8 = encIs e
  e9 : f 9 = encI i
  v : (f 7 = .sl true [] ∧ out = []) ∨ ∃ id, f 7 = .own id 0 out.length ∧ S.g id = some (.arr 2 (out.map encR)) ∧ 0 < out.length
theorem MSt.vec {a b : List Rg} {kind : Int} {e : List Int} {i : Nat} {out : List Rg} {f : AF} {S : St} (h : MSt a b kind e i out f S) : Vec S.g (f 7) 2 (out.map encR) := by
  rcases h.v with ⟨h1, h2⟩ | ⟨id, h1, h2, _⟩
  · rw [h1, h2]; exact .nil
  · rw [h1]; exact .mk' h2 (by simp)
theorem MSt.same {a b : List Rg} {kind : Int} {e : List Int} {i : Nat} {out : List Rg} {f f' : AF} {S S' : St} (h : MSt a b kind e i out f S) (hf : ∀ j, j = 0 ∨ j = 1 ∨ j = 2 ∨ j = 7 ∨ j = 8 ∨ j = 9 → f' j = f j) (hg : S'.g = S.g) : MSt a b kind e i out f' S' :=
  ⟨by rw [hf 0 (by simp), h.e0], by rw [hf 1 (by simp), h.e1], by rw [hf 2 (by simp), h.e2], by rw [hf 8 (by simp), h.e8], by rw [hf 9 (by simp), h.e9], by rw [hf 7 (by simp), hg]; exact h.v⟩
end Go.Rf


set_option linter.unusedVariables false
set_option linter.unusedSimpArgs false
namespace Go.Rf
def andF (a b : List Rg) : List Rg := madeF a b 1
def plainF (l : List Rg) : List Rg := madeF l [] 0
def firstF (l : List Rg) : Int := match plainF l with | [] => -1 | r :: _ => r.low
def rightF (l : List Rg) : Bool := decide (l.length ≤ 400) && decide (plainF l = l)
def sizeW (n : Int) (r : Rg) : Int := IntKind.i64.wrap (IntKind.i64.wrap (IntKind.i64.wrap (n + r.high) - r.low) + 1)
def sizeF (l : List Rg) : Int := (plainF l).foldl sizeW 0
structure RAC (P : Program) (ff fr fs fa : FuncId) : Prop where
  f : ∀ l, PureC P ff [encRs l] (encI (firstF l))
  r : ∀ l, PureC P fr [encRs l] (encB (rightF l))
  s : ∀ l, PureC P fs [encRs l] (encI (sizeF l))
  a : ∀ a b, PureC P fa [encRs a, encRs b] (encRs (andF a b))
end Go.Rf


set_option linter.unusedVariables false
set_option linter.unusedSimpArgs false
namespace Go.Rf
/-! ### rising, apart, and below a bound -/
structure Canon (l : List Rg) (B : Int) : Prop where
  pw : l.Pairwise (fun x y => x.high + 1 < y.low)
  at_ : ∀ r ∈ l, 0 ≤ r.low ∧ r.low ≤ r.high ∧ r.high < B
theorem Canon.mono {l : List Rg} {B C : Int} (h : Canon l B) (hb : B ≤ C) : Canon l C := ⟨h.pw, fun r hr => by have := h.at_ r hr; omega⟩
/-- What is right: each is rising, none has another one's. -/
structure RightP (atoms : List (List Rg)) : Prop where
  len : atoms.length ≤ 200
  ok : ∀ a ∈ atoms, a.length ≤ 400 ∧ a ≠ [] ∧ Canon a 1114112
  dis : ∀ j k (hj : j < atoms.length) (hk : k < atoms.length), j < k → ∀ c, ¬ (hasR atoms[k] c = true ∧ hasR atoms[j] c = true)
end Go.Rf

