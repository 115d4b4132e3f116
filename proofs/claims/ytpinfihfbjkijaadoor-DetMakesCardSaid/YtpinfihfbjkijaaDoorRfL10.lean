import Derived.Test.YtpinfihfbjkijaaDoorRfB16
import Derived.Test.YtpinfihfbjkijaaDoorRfB3
set_option linter.unusedVariables false
set_option linter.unusedSimpArgs false
namespace Go.Rf
def condK (kind : Int) (x y : Bool) : Bool := (kind == 0 && (!x && !y)) || (kind == 1 && (!x || !y)) || (kind == 2 && (!x || y))
def lastR (out : List Rg) : Rg := out.getD (out.length - 1) ⟨0, 0⟩
def addR (out : List Rg) (lo hi : Int) : List Rg := if 0 < out.length ∧ (lastR out).high + 1 = lo then out.set (out.length - 1) ⟨(lastR out).low, hi⟩ else out ++ [⟨lo, hi⟩]
def toE (e : List Int) (i : Nat) : Int := if i + 1 < e.length then e.getD (i + 1) 0 - 1 else 1114111
def made1 (a b : List Rg) (kind : Int) (e : List Int) (out : List Rg) (i : Nat) : List Rg :=
  if condK kind (hasR a (e.getD i 0)) (hasR b (e.getD i 0)) = true then out else addR out (e.getD i 0) (toE e i)
def madeF (a b : List Rg) (kind : Int) : List Rg := (List.range (edgesF [a, b]).length).foldl (made1 a b kind (edgesF [a, b])) []
/-- What made has so far. -/
structure MSt (a b : List Rg) (kind : Int) (e : List Int) (i : Nat) (out : List Rg) (f : AF) (S : St) : Prop where
  e0 : f 0 = encRs a
  e1 : f 1 = encRs b
  e2 : f 2 = encI kind
  e8 : f 8 = encIs e
  e9 : f 9 = encI i
  v : (f 7 = .sl true [] ∧ out = []) ∨ ∃ id, f 7 = .own id 0 out.length ∧ S.g id = some (.arr 2 (out.map encR)) ∧ 0 < out.length
theorem MSt.vec {a b : List Rg} {kind : Int} {e : List Int} {i : Nat} {out : List Rg} {f : AF} {S : St} (h : MSt a b kind e i out f S) : Vec S.g (f 7) 2 (out.map encR) := by
  rcases h.v with ⟨h1, h2⟩ | ⟨id, h1, h2, _⟩
  · rw [h1, h2]; exact .nil
  · rw [h1]; exact .mk' h2 (by simp)
theorem MSt.same {a b : List Rg} {kind : Int} {e : List Int} {i : Nat} {out : List Rg} {f f' : AF} {S S' : St} (h : MSt a b kind e i out f S) (hf : ∀ j, j = 0 ∨ j = 1 ∨ j = 2 ∨ j = 7 ∨ j = 8 ∨ j = 9 → f' j = f j) (hg : S'.g = S.g) : MSt a b kind e i out f' S' :=
  ⟨by rw [hf 0 (by simp), h.e0], by rw [hf 1 (by simp), h.e1], by rw [hf 2 (by simp), h.e2], by rw [hf 8 (by simp), h.e8], by rw [hf 9 (by simp), h.e9], by rw [hf 7 (by simp), hg]; exact h.v⟩
theorem mem_putF {n x : Int} : ∀ {l : List Int}, x ∈ putF l n ↔ x = n ∨ x ∈ l
  | [] => by simp [putF]
  | y :: l => by
    simp only [putF]
    split
    · rw [List.mem_cons, mem_putF, List.mem_cons]
      constructor
      · rintro (h | h | h) <;> simp [h]
      · rintro (h | h | h) <;> simp [h]
    · split
      · rename_i h; subst h
        constructor
        · intro h; exact .inr h
        · rintro (h | h)
          · rw [h]; exact List.mem_cons_self ..
          · exact h
      · rw [List.mem_cons]
end Go.Rf


set_option linter.unusedVariables false
set_option linter.unusedSimpArgs false
namespace Go.Rf
def andF (a b : List Rg) : List Rg := madeF a b 1
def plainF (l : List Rg) : List Rg := madeF l [] 0
def firstF (l : List Rg) : Int := match plainF l with | [] => -1 | r :: _ => r.low
def rightF (l : List Rg) : Bool := decide (l.length ≤ 400) && decide (plainF l = l)
def sizeW (n : Int) (r : Rg) : Int := IntKind.i64.wrap (IntKind.i64.wrap (IntKind.i64.wrap (n + r.high) - r.low) + 1)
def sizeF (l : List Rg) : Int := (plainF l).foldl sizeW 0
structure RAC (P : Program) (ff fr fs fa : FuncId) : Prop where
  f : ∀ l, PureC P ff [encRs l] (encI (firstF l))
  r : ∀ l, PureC P fr [encRs l] (encB (rightF l))
  s : ∀ l, PureC P fs [encRs l] (encI (sizeF l))
  a : ∀ a b, PureC P fa [encRs a, encRs b] (encRs (andF a b))
end Go.Rf


set_option linter.unusedVariables false
set_option linter.unusedSimpArgs false
namespace Go.Rf
theorem putF_sorted {n : Int} : ∀ {l : List Int}, l.Pairwise (· < ·) → (putF l n).Pairwise (· < ·)
  | [], _ => by simp [putF]
  | x :: l, h => by
    obtain ⟨h1, h2⟩ := List.pairwise_cons.mp h
    simp only [putF]
    split
    · rename_i hx
      refine List.pairwise_cons.mpr ⟨fun y hy => ?_, putF_sorted h2⟩
      rcases mem_putF.mp hy with h3 | h3
      · omega
      · exact h1 y h3
    · split
      · exact h
      · refine List.pairwise_cons.mpr ⟨fun y hy => ?_, h⟩
        rcases List.mem_cons.mp hy with h3 | h3
        · omega
        · have := h1 y h3; omega
/-! ### rising, apart, and below a bound -/
structure Canon (l : List Rg) (B : Int) : Prop where
  pw : l.Pairwise (fun x y => x.high + 1 < y.low)
  at_ : ∀ r ∈ l, 0 ≤ r.low ∧ r.low ≤ r.high ∧ r.high < B
theorem Canon.mono {l : List Rg} {B C : Int} (h : Canon l B) (hb : B ≤ C) : Canon l C := ⟨h.pw, fun r hr => by have := h.at_ r hr; omega⟩
/-- What is right: each is rising, none has another one's. -/
structure RightP (atoms : List (List Rg)) : Prop where
  len : atoms.length ≤ 200
  ok : ∀ a ∈ atoms, a.length ≤ 400 ∧ a ≠ [] ∧ Canon a 1114112
  dis : ∀ j k (hj : j < atoms.length) (hk : k < atoms.length), j < k → ∀ c, ¬ (hasR atoms[k] c = true ∧ hasR atoms[j] c = true)
end Go.Rf

