import Derived.Test.YtpinfihfbjkijaaDoorRfD15
import Derived.Test.YtpinfihfbjkijaaDoorRfIn
import Derived.Test.YtpinfihfbjkijaaDoorCards
import Derived.Test.YtpinfihfbjkijaaDoorTie
import Derived.LaidMore
import Derived.OpenShut
import Derived.Stop.Joined
import Derived.SevenTiedAt
/- Own work: layer 15's types at its seat; its contracts of automata; the laid variables. -/
set_option linter.unusedVariables false
set_option linter.unusedSimpArgs false
namespace Go.Proofs.YtpinfihfbjkijaaDoor
open Go.ChangeShapes Go.WideShapes Go.ChangeAt Go.RowKit Go.Rf

def In64 (n : Int) : Prop := IntKind.i64.min ≤ n ∧ n ≤ IntKind.i64.max
def lenOk {X : Type} (l : List X) : Prop := l.length ≤ 140737488351232
def goodIs (l : List Int) : Prop := lenOk l ∧ ∀ x ∈ l, In64 x
def goodIss (l : List (List Int)) : Prop := lenOk l ∧ ∀ x ∈ l, goodIs x
def goodBs (l : List Bool) : Prop := lenOk l ∧ ∀ x ∈ l, True
def goodDet (d : Det) : Prop := In64 d.signs ∧ goodIss d.next ∧ goodBs d.fin
theorem goodDet.ok {d : Det} (h : goodDet d) : DetOk d :=
  ⟨h.2.1.1, h.2.2.1, fun r hr => (h.2.1.2 r hr).1, by have := h.1; simp [In64, IntKind.min, IntKind.max] at this; first | exact this | (simp [IntKind.bits] at this; omega)⟩
theorem dec3 (n : Nat) : DecF Tryd.prog n 3 Rf.encI In64 := DecF.int (by kernel_rfl) (by kernel_rfl) n
theorem dec23 : ∀ n, DecF Tryd.prog n 23 encIs goodIs
  | 0 => .zero (fun _ _ => by simp [encIs, AV.cells]; kernel_rfl) (fun _ _ => by simp [encIs, AV.cells, AV.atom])
  | n + 1 => DecF.slice (e := 3) (by kernel_rfl) (by kernel_rfl) (of_decide_eq_true (by kernel_rfl)) (of_decide_eq_true (by kernel_rfl)) (dec3 n)
theorem dec22 : ∀ n, DecF Tryd.prog n 22 encIss goodIss
  | 0 => .zero (fun _ _ => by simp [encIss, AV.cells]; kernel_rfl) (fun _ _ => by simp [encIss, AV.cells, AV.atom])
  | n + 1 => DecF.slice (e := 23) (by kernel_rfl) (by kernel_rfl) (of_decide_eq_true (by kernel_rfl)) (of_decide_eq_true (by kernel_rfl)) (dec23 n)
abbrev laidL : List (String × DataW Unit) := [("math/bits.deBruijn32tab", Rows.laid_math_bits_deBruijn32tab), ("math/bits.deBruijn64tab", Rows.laid_math_bits_deBruijn64tab), ("internal/strconv.uint64pow10", Rows.laid_internal_strconv_uint64pow10)]
theorem door_met (os : Os) (args : Array Value) : laidMetH Tryd.prog laidL ((World.doorLaid Tryd.prog 400 os).forCall (fun _ _ => 0) ⟨#[], args, []⟩).memory :=
  laidMetH_of_parts3 (fuel := 8) (laidMet_of_run' 8 (by kernel_rfl) (by kernel_rfl)) (by kernel_rfl) (by kernel_rfl)
theorem cLists (a b : List (List Int)) (ha : Len a) (hb : Len b) (h1 : ∀ x ∈ a, Len x) (h2 : ∀ x ∈ b, Len x) : PureC Tryd.prog 35 [encIss a, encIss b] (encB (a == b)) :=
  is35.pure hmix rfl (Lists13_body a b ha hb (fun x hx y hy => cInts x y (h1 x hx) (h2 y hy)))
theorem cSame (a b : Det) (oa : DetOk a) (ob : DetOk b) : PureC Tryd.prog 15 [encDet a, encDet b] (encB (sameD a b)) :=
  is15.pure hmix rfl (Same15_body (fe := 0) a b (cLists _ _ oa.next ob.next oa.rows ob.rows) (is36.pure hmix rfl (Bools15_body _ _ oa.fin ob.fin)))
end Go.Proofs.YtpinfihfbjkijaaDoor

