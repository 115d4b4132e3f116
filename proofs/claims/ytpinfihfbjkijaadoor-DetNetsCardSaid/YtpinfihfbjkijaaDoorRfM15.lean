import Derived.Test.YtpinfihfbjkijaaDoorRfD15
import Derived.Test.YtpinfihfbjkijaaDoorRfGam
import Derived.Test.YtpinfihfbjkijaaDoorCards
import Derived.Test.YtpinfihfbjkijaaDoorTie
import Derived.LaidMore
import Derived.OpenShut
import Derived.Stop.Joined
import Derived.SevenTiedAt
/- Own work: layer 15's types at its seat; its contracts of automata; the laid variables. -/
set_option linter.unusedVariables false
set_option linter.unusedSimpArgs false
namespace Go.Proofs.YtpinfihfbjkijaaDoor
open Go.ChangeShapes Go.WideShapes Go.ChangeAt Go.RowKit Go.Rf

def In64 (n : Int) : Prop := IntKind.i64.min ≤ n ∧ n ≤ IntKind.i64.max
def lenOk {X : Type} (l : List X) : Prop := l.length ≤ 140737488351232
def goodIs (l : List Int) : Prop := lenOk l ∧ ∀ x ∈ l, In64 x
def goodIss (l : List (List Int)) : Prop := lenOk l ∧ ∀ x ∈ l, goodIs x
def goodBs (l : List Bool) : Prop := lenOk l ∧ ∀ x ∈ l, True
def goodDet (d : Det) : Prop := In64 d.signs ∧ goodIss d.next ∧ goodBs d.fin
theorem goodDet.ok {d : Det} (h : goodDet d) : DetOk d :=
  ⟨h.2.1.1, h.2.2.1, fun r hr => (h.2.1.2 r hr).1, by have := h.1; simp [In64, IntKind.min, IntKind.max] at this; first | exact this | (simp [IntKind.bits] at this; omega)⟩
theorem dec3 (n : Nat) : DecF Tryd.prog n 3 Rf.encI In64 := DecF.int (by kernel_rfl) (by kernel_rfl) n
theorem dec23 : ∀ n, DecF Tryd.prog n 23 encIs goodIs
  | 0 => .zero (fun _ _ => by simp [encIs, AV.cells]; kernel_rfl) (fun _ _ => by simp [encIs, AV.cells, AV.atom])
  | n + 1 => DecF.slice (e := 3) (by kernel_rfl) (by kernel_rfl) (of_decide_eq_true (by kernel_rfl)) (of_decide_eq_true (by kernel_rfl)) (dec3 n)
theorem dec22 : ∀ n, DecF Tryd.prog n 22 encIss goodIss
  | 0 => .zero (fun _ _ => by simp [encIss, AV.cells]; kernel_rfl) (fun _ _ => by simp [encIss, AV.cells, AV.atom])
  | n + 1 => DecF.slice (e := 23) (by kernel_rfl) (by kernel_rfl) (of_decide_eq_true (by kernel_rfl)) (of_decide_eq_true (by kernel_rfl)) (dec23 n)
abbrev laidL : List (String × DataW Unit) := [("math/bits.deBruijn32tab", Rows.laid_math_bits_deBruijn32tab), ("math/bits.deBruijn64tab", Rows.laid_math_bits_deBruijn64tab), ("internal/strconv.uint64pow10", Rows.laid_internal_strconv_uint64pow10)]
theorem door_met (os : Os) (args : Array Value) : laidMetH Tryd.prog laidL ((World.doorLaid Tryd.prog 400 os).forCall (fun _ _ => 0) ⟨#[], args, []⟩).memory :=
  laidMetH_of_parts3 (fuel := 8) (laidMet_of_run' 8 (by kernel_rfl) (by kernel_rfl)) (by kernel_rfl) (by kernel_rfl)
theorem gamL (W : World) (h : laidMetH Tryd.prog laidL W) : Gam Tryd.prog (E0 W).H :=
  gam_laid h (by kernel_rfl) (List.mem_cons_of_mem _ (List.mem_cons_of_mem _ (List.mem_singleton.mpr (by kernel_rfl)))) (g := 0) (t := 122) (e := 91) (n := 20) (by kernel_rfl) (by kernel_rfl) (by kernel_rfl) (by kernel_rfl) (by kernel_rfl) (by kernel_rfl)
/-- slices.IndexFunc and slices.ContainsFunc at []int. -/
theorem cIndexI (l : List Int) (p : Int → Bool) (g : FuncId) (cap : List AV) (hl : Len l) (hcap : ∀ y ∈ cap, Closed y) (hp : ∀ x ∈ l, PureC Tryd.prog g (Rf.encI x :: cap) (encB (p x))) : PureC Tryd.prog 60 [encIs l, .clo g [] cap] (Rf.encI (idxF p l)) :=
  is60.pure hmix rfl (slices_IndexFunc_body (enc := Rf.encI) hl (fun _ => rfl) Z32 hcap hp)
theorem cContainsI (l : List Int) (p : Int → Bool) (g : FuncId) (cap : List AV) (hl : Len l) (hcap : ∀ y ∈ cap, Closed y) (hp : ∀ x ∈ l, PureC Tryd.prog g (Rf.encI x :: cap) (encB (p x))) : PureC Tryd.prog 40 [encIs l, .clo g [] cap] (encB (l.any p)) :=
  is40.pure hmix rfl (slices_ContainsFunc_body (enc := Rf.encI) Z32 hcap (cIndexI l p g cap hl hcap hp))
theorem cIndexL (l : List (List Int)) (p : List Int → Bool) (g : FuncId) (cap : List AV) (hl : Len l) (hcap : ∀ y ∈ cap, Closed y) (hp : ∀ x ∈ l, PureC Tryd.prog g (encIs x :: cap) (encB (p x))) : PureC Tryd.prog 59 [encIss l, .clo g [] cap] (Rf.encI (idxF p l)) :=
  is59.pure hmix rfl (slices_IndexFunc_body (enc := encIs) hl (fun _ => rfl) Z33 hcap hp)
theorem cContainsL (l : List (List Int)) (p : List Int → Bool) (g : FuncId) (cap : List AV) (hl : Len l) (hcap : ∀ y ∈ cap, Closed y) (hp : ∀ x ∈ l, PureC Tryd.prog g (encIs x :: cap) (encB (p x))) : PureC Tryd.prog 38 [encIss l, .clo g [] cap] (encB (l.any p)) :=
  is38.pure hmix rfl (slices_ContainsFunc_body (enc := encIs) Z33 hcap (cIndexL l p g cap hl hcap hp))
theorem closed_out (k : Nat) : Closed (.clo 37 [] [.eptr (Rf.encI k) 0]) := .clo _ _ _ cl_nil (cl_cons (.eptr _ _ (Z32 _)) cl_nil)
theorem cDetRight (d : Det) (ok : DetOk d) : PureC Tryd.prog 17 [encDet d] (encB (rightD d)) := by
  refine is17.pure hmix rfl (det_Right_body d ok ?_)
  refine cContainsL d.next (oddRow d) 39 _ ok.next (cl_cons (.eptr _ _ (closed_Det d)) (cl_cons (.eptr _ _ (closed_out _)) cl_nil)) (fun r hr => ?_)
  refine is39.pure hmix rfl (det_Right_2_body d r ?_)
  exact cContainsI r (outB d.next.length) 37 _ (ok.rows r hr) (cl_cons (.eptr _ _ (Z32 _)) cl_nil) (fun t _ => is37.pure hmix rfl (det_Right_1_body _ t _))
theorem cDetRun (d : Det) (ok : DetOk d) (l : List Int) (hl : Len l) : PureC Tryd.prog 19 [encDet d, encIs l] (Rf.encI (numO (runD d l))) := is19.pure hmix rfl (det_Run_body d l hl (cDetRight d ok))
theorem cDetAccepts (d : Det) (ok : DetOk d) (l : List Int) (hl : Len l) : PureC Tryd.prog 21 [encDet d, encIs l] (encB (accD d l)) := is21.pure hmix rfl (caesuraref15_Accepts_body d l (cDetRun d ok l hl))
end Go.Proofs.YtpinfihfbjkijaaDoor

