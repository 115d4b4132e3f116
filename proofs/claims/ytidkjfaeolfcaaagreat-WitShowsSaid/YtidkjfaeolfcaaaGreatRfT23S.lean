/- WitShows returns true at every automaton, atoms and witness, and leaves them as they were; no conditions. -/
import Derived.Test.YtidkjfaeolfcaaaGreatRows
import Derived.Test.YtidkjfaeolfcaaaGreatRfIn
import Derived.Test.YtidkjfaeolfcaaaGreatRfGam
import Derived.Test.YtidkjfaeolfcaaaGreatRfX2
import Derived.Test.YtidkjfaeolfcaaaGreatRfB4
import Derived.Test.YtidkjfaeolfcaaaGreatRfRun
import Derived.WalkKit
import Derived.ProofKit
import Derived.Below
import Derived.SizedLaws
import Derived.KernelRfl
set_option linter.unusedVariables false
set_option linter.unusedSimpArgs false
namespace Go.Proofs.YtidkjfaeolfcaaaGreat
open Go.ChangeShapes Go.WideShapes Go.ChangeAt Go.RowKit Go.Rf
theorem gamN (W : World) : Gam Tryz.prog (E0 W).H := gam_none (by kernel_rfl) _
def goodIs (l : List Int) : Prop := Len l ∧ ∀ x ∈ l, In64 x
def goodW (w : Wit) : Prop := goodIs w.text ∧ In64 w.place
def goodDet (d : Det) : Prop := In64 d.signs ∧ (Len d.next ∧ ∀ x ∈ d.next, goodIs x) ∧ (Len d.fin ∧ ∀ x ∈ d.fin, True)
def goodRss (l : List (List Rg)) : Prop := Len l ∧ ∀ x ∈ l, Len x ∧ ∀ r ∈ x, goodRg r
theorem goodDet.ok {d : Det} (h : goodDet d) : DetOk d :=
  ⟨h.2.1.1, h.2.2.1, fun r hr => (h.2.1.2 r hr).1, by have := h.1; simp [In64, IntKind.min, IntKind.max] at this; first | exact this | (simp [IntKind.bits] at this; omega)⟩
theorem tI : chkI Tryz.prog 3 = true := by kernel_rfl
theorem tB : chkB Tryz.prog 4 = true := by kernel_rfl
theorem tIs : chkL Tryz.prog 32 3 = true := by kernel_rfl
theorem tIss : chkL Tryz.prog 22 32 = true := by kernel_rfl
theorem tBs : chkL Tryz.prog 23 4 = true := by kernel_rfl
theorem tDet : chkT Tryz.prog 25 [3, 22, 23] = true := by kernel_rfl
theorem tRg : chkT Tryz.prog 47 [3, 3] = true := by kernel_rfl
theorem tRgs : chkL Tryz.prog 48 47 = true := by kernel_rfl
theorem tRss : chkL Tryz.prog 26 48 = true := by kernel_rfl
theorem tWit : chkT Tryz.prog 34 [32, 3] = true := by kernel_rfl
theorem dec32 : ∀ n, DecF Tryz.prog n 32 encIs goodIs := chkL_ok tIs (chkI_ok tI)
theorem dec22 : ∀ n, DecF Tryz.prog n 22 encIss (fun l => Len l ∧ ∀ x ∈ l, goodIs x) := chkL_ok tIss dec32
theorem dec23 : ∀ n, DecF Tryz.prog n 23 encBs (fun l => Len l ∧ ∀ x ∈ l, True) := chkL_ok tBs (chkB_ok tB)
theorem dec25 : ∀ n, DecF Tryz.prog n 25 encDet goodDet
  | 0 => .zero (fun x _ => by rw [chkT_cells tDet]; simp [encDet, AV.cells, cellsI tI, cellsL tIss, cellsL tBs]) (fun _ _ => by simp [encDet, AV.cells, AV.atom, encI, encIss, encBs])
  | n + 1 => by
    have hD := chkT_ok (n := n) tDet (chkF_cons (chkI_ok tI n) (chkF_cons (dec22 n) (chkF_cons (dec23 n) chkF_nil)))
    exact hD.map encDet goodDet (fun p => ⟨p.1, p.2.1, p.2.2.1⟩) (fun d => (d.signs, d.next, d.fin, ())) (fun x => by simp [encDet, encI, encIss, encBs, AV.cells]) (fun x hx => ⟨hx.1, hx.2.1, hx.2.2.1⟩)
      (fun y hy => ⟨⟨hy.1, hy.2.1, hy.2.2, trivial⟩, by simp [encDet, encI, encIss, encBs, AV.cells]⟩)
theorem dec47 : ∀ n, DecF Tryz.prog n 47 encR goodRg
  | 0 => .zero (fun x _ => by rw [chkT_cells tRg]; simp [encR, AV.cells, cellsI tI]) (fun x _ y hy => by simp [encR, AV.cells] at hy; rcases hy with rfl | rfl <;> rfl)
  | n + 1 => by
    have hD := chkT_ok (n := n) tRg (chkF_cons (chkI_ok tI n) (chkF_cons (chkI_ok tI n) chkF_nil))
    exact hD.map encR goodRg (fun p => ⟨p.1, p.2.1⟩) (fun r => (r.low, r.high, ())) (fun x => by simp [encR, encI, AV.cells]) (fun x hx => ⟨hx.1, hx.2.1⟩) (fun y hy => ⟨⟨hy.1, hy.2, trivial⟩, by simp [encR, encI, AV.cells]⟩)
theorem dec48 : ∀ n, DecF Tryz.prog n 48 encRs (fun x => Len x ∧ ∀ r ∈ x, goodRg r) := chkL_ok tRgs dec47
theorem dec26 : ∀ n, DecF Tryz.prog n 26 encRss goodRss := chkL_ok tRss dec48
theorem dec34 : ∀ n, DecF Tryz.prog n 34 encWj goodW
  | 0 => .zero (fun x _ => by rw [chkT_cells tWit]; simp [encWj, AV.cells, cellsI tI, cellsL tIs]) (fun _ _ => by simp [encWj, AV.cells, AV.atom, encI, encIs])
  | n + 1 => by
    have hD := chkT_ok (n := n) tWit (chkF_cons (dec32 n) (chkF_cons (chkI_ok tI n) chkF_nil))
    exact hD.map encWj goodW (fun p => ⟨p.1, p.2.1⟩) (fun d => (d.text, d.place, ())) (fun x => by simp [encWj, encI, encIs, AV.cells]) (fun x hx => ⟨hx.1, hx.2.1⟩)
      (fun y hy => ⟨⟨hy.1, hy.2, trivial⟩, by simp [encWj, encI, encIs, AV.cells]⟩)
theorem notS25 : ∃ fs, Tryz.prog.underlying 25 = some (.struct fs) ∨ ∃ n e, Tryz.prog.underlying 25 = some (.array n e) := ⟨(match Tryz.prog.underlying 25 with | some (.struct fs) => fs | _ => #[]), .inl (by kernel_rfl)⟩
theorem notS34 : ∃ fs, Tryz.prog.underlying 34 = some (.struct fs) ∨ ∃ n e, Tryz.prog.underlying 34 = some (.array n e) := ⟨(match Tryz.prog.underlying 34 with | some (.struct fs) => fs | _ => #[]), .inl (by kernel_rfl)⟩
theorem hmix : Tryz.prog.follows .mixedOrders = true := by kernel_rfl
theorem is6 : Is Tryz.prog 6 (c_caesuralaw23_WitShows 7 8 9 21 23 15 17) [6] 3 := ⟨Tryz.f6, Tryz.f6.body.getD .skip, Tryz.func6, by kernel_rfl, by kernel_rfl, by kernel_rfl, by kernel_rfl, by rw [Tryz.ntmps6]; decide⟩
theorem is8 : Is Tryz.prog 8 (c_caesuraref15_Great) [4] 2 := ⟨Tryz.f8, Tryz.f8.body.getD .skip, Tryz.func8, by kernel_rfl, by kernel_rfl, by kernel_rfl, by kernel_rfl, by rw [Tryz.ntmps8]; decide⟩
theorem is9 : Is Tryz.prog 9 (c_caesuraref02_Great) [4] 2 := ⟨Tryz.f9, Tryz.f9.body.getD .skip, Tryz.func9, by kernel_rfl, by kernel_rfl, by kernel_rfl, by kernel_rfl, by rw [Tryz.ntmps9]; decide⟩
theorem is15 : Is Tryz.prog 15 (c_wit_Shows 32 33) [6] 3 := ⟨Tryz.f15, Tryz.f15.body.getD .skip, Tryz.func15, by kernel_rfl, by kernel_rfl, by kernel_rfl, by kernel_rfl, by rw [Tryz.ntmps15]; decide⟩
theorem is17 : Is Tryz.prog 17 (c_wit_Before 31) [4] 2 := ⟨Tryz.f17, Tryz.f17.body.getD .skip, Tryz.func17, by kernel_rfl, by kernel_rfl, by kernel_rfl, by kernel_rfl, by rw [Tryz.ntmps17]; decide⟩
theorem is21 : Is Tryz.prog 21 (c_caesuraref02_Right 37 38 39 40) [2] 1 := ⟨Tryz.f21, Tryz.f21.body.getD .skip, Tryz.func21, by kernel_rfl, by kernel_rfl, by kernel_rfl, by kernel_rfl, by rw [Tryz.ntmps21]; decide⟩
theorem is23 : Is Tryz.prog 23 (c_caesuraref02_Class 41) [4] 2 := ⟨Tryz.f23, Tryz.f23.body.getD .skip, Tryz.func23, by kernel_rfl, by kernel_rfl, by kernel_rfl, by kernel_rfl, by rw [Tryz.ntmps23]; decide⟩
theorem is24 : Is Tryz.prog 24 (c_det_Right 42 44 43) [2] 1 := ⟨Tryz.f24, Tryz.f24.body.getD .skip, Tryz.func24, by kernel_rfl, by kernel_rfl, by kernel_rfl, by kernel_rfl, by rw [Tryz.ntmps24]; decide⟩
theorem is31 : Is Tryz.prog 31 (c_wit_compare 51 67 66) [4] 2 := ⟨Tryz.f31, Tryz.f31.body.getD .skip, Tryz.func31, by kernel_rfl, by kernel_rfl, by kernel_rfl, by kernel_rfl, by rw [Tryz.ntmps31]; decide⟩
theorem is32 : Is Tryz.prog 32 (c_sign_Word 68 59) [4, 5] 2 := ⟨Tryz.f32, Tryz.f32.body.getD .skip, Tryz.func32, by kernel_rfl, by kernel_rfl, by kernel_rfl, by kernel_rfl, by rw [Tryz.ntmps32]; decide⟩
theorem is33 : Is Tryz.prog 33 (c_match_At 57 56) [6] 3 := ⟨Tryz.f33, Tryz.f33.body.getD .skip, Tryz.func33, by kernel_rfl, by kernel_rfl, by kernel_rfl, by kernel_rfl, by rw [Tryz.ntmps33]; decide⟩
theorem is37 : Is Tryz.prog 37 (c_caesuraref01_First 70) [2] 1 := ⟨Tryz.f37, Tryz.f37.body.getD .skip, Tryz.func37, by kernel_rfl, by kernel_rfl, by kernel_rfl, by kernel_rfl, by rw [Tryz.ntmps37]; decide⟩
theorem is38 : Is Tryz.prog 38 (c_caesuraref01_Right 70 71) [2] 1 := ⟨Tryz.f38, Tryz.f38.body.getD .skip, Tryz.func38, by kernel_rfl, by kernel_rfl, by kernel_rfl, by kernel_rfl, by rw [Tryz.ntmps38]; decide⟩
theorem is39 : Is Tryz.prog 39 (c_caesuraref01_Size 70) [2] 1 := ⟨Tryz.f39, Tryz.f39.body.getD .skip, Tryz.func39, by kernel_rfl, by kernel_rfl, by kernel_rfl, by kernel_rfl, by rw [Tryz.ntmps39]; decide⟩
theorem is40 : Is Tryz.prog 40 (c_caesuraref01_And 72) [4] 2 := ⟨Tryz.f40, Tryz.f40.body.getD .skip, Tryz.func40, by kernel_rfl, by kernel_rfl, by kernel_rfl, by kernel_rfl, by rw [Tryz.ntmps40]; decide⟩
theorem is41 : Is Tryz.prog 41 (c_caesuraref01_Has) [4] 2 := ⟨Tryz.f41, Tryz.f41.body.getD .skip, Tryz.func41, by kernel_rfl, by kernel_rfl, by kernel_rfl, by kernel_rfl, by rw [Tryz.ntmps41]; decide⟩
theorem is42 : Is Tryz.prog 42 (c_det_Right_1) [3] 2 := ⟨Tryz.f42, Tryz.f42.body.getD .skip, Tryz.func42, by kernel_rfl, by kernel_rfl, by kernel_rfl, by kernel_rfl, by rw [Tryz.ntmps42]; decide⟩
theorem is43 : Is Tryz.prog 43 (c_slices_ContainsFunc 73) [4] 2 := ⟨Tryz.f43, Tryz.f43.body.getD .skip, Tryz.func43, by kernel_rfl, by kernel_rfl, by kernel_rfl, by kernel_rfl, by rw [Tryz.ntmps43]; decide⟩
theorem is44 : Is Tryz.prog 44 (c_det_Right_2 45) [4] 3 := ⟨Tryz.f44, Tryz.f44.body.getD .skip, Tryz.func44, by kernel_rfl, by kernel_rfl, by kernel_rfl, by kernel_rfl, by rw [Tryz.ntmps44]; decide⟩
theorem is45 : Is Tryz.prog 45 (c_slices_ContainsFunc 74) [4] 2 := ⟨Tryz.f45, Tryz.f45.body.getD .skip, Tryz.func45, by kernel_rfl, by kernel_rfl, by kernel_rfl, by kernel_rfl, by rw [Tryz.ntmps45]; decide⟩
theorem is51 : Is Tryz.prog 51 (c_cmp_Compare_int_ 79) [4] 2 := ⟨Tryz.f51, Tryz.f51.body.getD .skip, Tryz.func51, by kernel_rfl, by kernel_rfl, by kernel_rfl, by kernel_rfl, by rw [Tryz.ntmps51]; decide⟩
theorem is56 : Is Tryz.prog 56 (c_caesuraref15_Accepts 81) [4] 2 := ⟨Tryz.f56, Tryz.f56.body.getD .skip, Tryz.func56, by kernel_rfl, by kernel_rfl, by kernel_rfl, by kernel_rfl, by rw [Tryz.ntmps56]; decide⟩
theorem is57 : Is Tryz.prog 57 (c_path_Write 82 45) [4] 2 := ⟨Tryz.f57, Tryz.f57.body.getD .skip, Tryz.func57, by kernel_rfl, by kernel_rfl, by kernel_rfl, by kernel_rfl, by rw [Tryz.ntmps57]; decide⟩
theorem is59 : Is Tryz.prog 59 (c_sign_each) [4, 5] 2 := ⟨Tryz.f59, Tryz.f59.body.getD .skip, Tryz.func59, by kernel_rfl, by kernel_rfl, by kernel_rfl, by kernel_rfl, by rw [Tryz.ntmps59]; decide⟩
theorem is66 : Is Tryz.prog 66 (c_cmp_Or_int_) [2] 1 := ⟨Tryz.f66, Tryz.f66.body.getD .skip, Tryz.func66, by kernel_rfl, by kernel_rfl, by kernel_rfl, by kernel_rfl, by rw [Tryz.ntmps66]; decide⟩
theorem is67 : Is Tryz.prog 67 (c_slices_Compare_Sint_int_ 51) [4] 2 := ⟨Tryz.f67, Tryz.f67.body.getD .skip, Tryz.func67, by kernel_rfl, by kernel_rfl, by kernel_rfl, by kernel_rfl, by rw [Tryz.ntmps67]; decide⟩
theorem is68 : Is Tryz.prog 68 (c_sign_Word_1 69) [3] 2 := ⟨Tryz.f68, Tryz.f68.body.getD .skip, Tryz.func68, by kernel_rfl, by kernel_rfl, by kernel_rfl, by kernel_rfl, by rw [Tryz.ntmps68]; decide⟩
theorem is69 : Is Tryz.prog 69 (c_atom_Class 87 86) [4] 2 := ⟨Tryz.f69, Tryz.f69.body.getD .skip, Tryz.func69, by kernel_rfl, by kernel_rfl, by kernel_rfl, by kernel_rfl, by rw [Tryz.ntmps69]; decide⟩
theorem is70 : Is Tryz.prog 70 (c_caesuraref01_Plain 89) [2] 1 := ⟨Tryz.f70, Tryz.f70.body.getD .skip, Tryz.func70, by kernel_rfl, by kernel_rfl, by kernel_rfl, by kernel_rfl, by rw [Tryz.ntmps70]; decide⟩
theorem is71 : Is Tryz.prog 71 (c_caesuraref01_Ranges) [4] 2 := ⟨Tryz.f71, Tryz.f71.body.getD .skip, Tryz.func71, by kernel_rfl, by kernel_rfl, by kernel_rfl, by kernel_rfl, by rw [Tryz.ntmps71]; decide⟩
theorem is72 : Is Tryz.prog 72 (c_caesuraref01_made 90 41) [6] 3 := ⟨Tryz.f72, Tryz.f72.body.getD .skip, Tryz.func72, by kernel_rfl, by kernel_rfl, by kernel_rfl, by kernel_rfl, by rw [Tryz.ntmps72]; decide⟩
theorem is73 : Is Tryz.prog 73 (c_slices_IndexFunc) [4] 2 := ⟨Tryz.f73, Tryz.f73.body.getD .skip, Tryz.func73, by kernel_rfl, by kernel_rfl, by kernel_rfl, by kernel_rfl, by rw [Tryz.ntmps73]; decide⟩
theorem is74 : Is Tryz.prog 74 (c_slices_IndexFunc) [4] 2 := ⟨Tryz.f74, Tryz.f74.body.getD .skip, Tryz.func74, by kernel_rfl, by kernel_rfl, by kernel_rfl, by kernel_rfl, by rw [Tryz.ntmps74]; decide⟩
theorem is79 : Is Tryz.prog 79 (c_cmp_isNaN_int_) [2] 1 := ⟨Tryz.f79, Tryz.f79.body.getD .skip, Tryz.func79, by kernel_rfl, by kernel_rfl, by kernel_rfl, by kernel_rfl, by rw [Tryz.ntmps79]; decide⟩
theorem is81 : Is Tryz.prog 81 (c_det_Run 24) [4] 2 := ⟨Tryz.f81, Tryz.f81.body.getD .skip, Tryz.func81, by kernel_rfl, by kernel_rfl, by kernel_rfl, by kernel_rfl, by rw [Tryz.ntmps81]; decide⟩
theorem is82 : Is Tryz.prog 82 (c_path_Write_1) [2] 1 := ⟨Tryz.f82, Tryz.f82.body.getD .skip, Tryz.func82, by kernel_rfl, by kernel_rfl, by kernel_rfl, by kernel_rfl, by rw [Tryz.ntmps82]; decide⟩
theorem is86 : Is Tryz.prog 86 (c_slices_IndexFunc) [4] 2 := ⟨Tryz.f86, Tryz.f86.body.getD .skip, Tryz.func86, by kernel_rfl, by kernel_rfl, by kernel_rfl, by kernel_rfl, by rw [Tryz.ntmps86]; decide⟩
theorem is87 : Is Tryz.prog 87 (c_atom_Class_1 88) [3] 2 := ⟨Tryz.f87, Tryz.f87.body.getD .skip, Tryz.func87, by kernel_rfl, by kernel_rfl, by kernel_rfl, by kernel_rfl, by rw [Tryz.ntmps87]; decide⟩
theorem is88 : Is Tryz.prog 88 (c_span_Has 112 111) [4] 2 := ⟨Tryz.f88, Tryz.f88.body.getD .skip, Tryz.func88, by kernel_rfl, by kernel_rfl, by kernel_rfl, by kernel_rfl, by rw [Tryz.ntmps88]; decide⟩
theorem is89 : Is Tryz.prog 89 (c_caesuraref01_Or 72) [4] 2 := ⟨Tryz.f89, Tryz.f89.body.getD .skip, Tryz.func89, by kernel_rfl, by kernel_rfl, by kernel_rfl, by kernel_rfl, by rw [Tryz.ntmps89]; decide⟩
theorem is90 : Is Tryz.prog 90 (c_caesuraref01_Edges 113) [2] 1 := ⟨Tryz.f90, Tryz.f90.body.getD .skip, Tryz.func90, by kernel_rfl, by kernel_rfl, by kernel_rfl, by kernel_rfl, by rw [Tryz.ntmps90]; decide⟩
theorem is113 : Is Tryz.prog 113 (c_caesuraref01_put) [4] 2 := ⟨Tryz.f113, Tryz.f113.body.getD .skip, Tryz.func113, by kernel_rfl, by kernel_rfl, by kernel_rfl, by kernel_rfl, by rw [Tryz.ntmps113]; decide⟩
theorem is111 : Is Tryz.prog 111 (c_slices_ContainsFunc_Sapi_Range_api_Range_ 124) [4] 2 := ⟨Tryz.f111, Tryz.f111.body.getD .skip, Tryz.func111, by kernel_rfl, by kernel_rfl, by kernel_rfl, by kernel_rfl, by rw [Tryz.ntmps111]; decide⟩
theorem is112 : Is Tryz.prog 112 (c_span_Has_1) [3] 2 := ⟨Tryz.f112, Tryz.f112.body.getD .skip, Tryz.func112, by kernel_rfl, by kernel_rfl, by kernel_rfl, by kernel_rfl, by rw [Tryz.ntmps112]; decide⟩
theorem is124 : Is Tryz.prog 124 (c_slices_IndexFunc_Sapi_Range_api_Range_) [4] 2 := ⟨Tryz.f124, Tryz.f124.body.getD .skip, Tryz.func124, by kernel_rfl, by kernel_rfl, by kernel_rfl, by kernel_rfl, by rw [Tryz.ntmps124]; decide⟩
theorem isAlive : fnK (tabOf Tryz.prog) (runF (tabOf Tryz.prog) 500) 7 [] = some (encB true, true) := by kernel_rfl
theorem cAlive : PureC Tryz.prog 7 [] (encB true) := .run hmix 500 isAlive
theorem cNaN (n : Int) : PureC Tryz.prog 79 [encI n] (encB false) := is79.pure hmix rfl (cmp_isNaN_body _ n)
theorem cCmp (x y : Int) : PureC Tryz.prog 51 [encI x, encI y] (encI (cmpI x y)) := is51.pure hmix rfl (cmp_Compare_body x y cNaN)
theorem cCompare (a b : List Int) (ha : Len a) (hb : Len b) : PureC Tryz.prog 67 [encIs a, encIs b] (encI (cmpL a b)) := is67.pure hmix rfl (slices_Compare_body a b ha hb cCmp)
theorem cOr (l : List Int) (hl : Len l) : PureC Tryz.prog 66 [.sl true (l.map encI)] (encI (orL l)) := (is66.pure hmix rfl (cmp_Or_body _ l hl)).tight1
theorem cWitCompare (a b : Wit) (ha : Len a.text) (hb : Len b.text) : PureC Tryz.prog 31 [encWj a, encWj b] (encI (ordW a b)) := is31.pure hmix rfl (wit_compare_body a b cCmp (cCompare _ _ ha hb) cOr)
theorem cBefore (a b : Wit) (ha : Len a.text) (hb : Len b.text) : PureC Tryz.prog 17 [encWj a, encWj b] (encB (beforeW a b)) := is17.pure hmix rfl (wit_Before_body a b (cWitCompare a b ha hb))
theorem tight2 {P : Program} {f : FuncId} {t : Bool} {xs : List AV} {y r : AV} (h : PureC P f [y, .sl false xs] r) : PureC P f [y, .sl t xs] r :=
  h.weak rfl (fun j h1 h2 E v hv => by
    match j with
    | 0 => exact hv
    | 1 => exact hv.loose
    | j + 2 => simp at h1; omega)
/-! ### automata -/
theorem cGreat (d : Det) (ok : DetOk d) (m : Int) (hm : m ≤ 3000) : PureC Tryz.prog 8 [encDet d, encI m] (encB (greatD d m)) := is8.pure hmix rfl (caesuraref15_Great_body _ d m ok hm)
theorem cContainsI (l : List Int) (p : Int → Bool) (g : FuncId) (cap : List AV) (hl : Len l) (hcap : ∀ y ∈ cap, Closed y) (hp : ∀ x ∈ l, PureC Tryz.prog g (encI x :: cap) (encB (p x))) : PureC Tryz.prog 45 [encIs l, .clo g [] cap] (encB (l.any p)) :=
  is45.pure hmix rfl (slices_ContainsFunc_body (enc := encI) Z2r hcap (is74.pure hmix rfl (slices_IndexFunc_body (enc := encI) hl (fun _ => rfl) Z2r hcap hp)))
theorem cContainsL (l : List (List Int)) (p : List Int → Bool) (g : FuncId) (cap : List AV) (hl : Len l) (hcap : ∀ y ∈ cap, Closed y) (hp : ∀ x ∈ l, PureC Tryz.prog g (encIs x :: cap) (encB (p x))) : PureC Tryz.prog 43 [encIss l, .clo g [] cap] (encB (l.any p)) :=
  is43.pure hmix rfl (slices_ContainsFunc_body (enc := encIs) Z2s hcap (is73.pure hmix rfl (slices_IndexFunc_body (enc := encIs) hl (fun _ => rfl) Z2s hcap hp)))
theorem closed_out (k : Nat) : Closed (.clo 42 [] [.eptr (encI k) 0]) := .clo _ _ _ cl_nil (cl_cons (.eptr _ _ (Z2r _)) cl_nil)
theorem cDetRight (d : Det) (ok : DetOk d) : PureC Tryz.prog 24 [encDet d] (encB (rightD d)) := by
  refine is24.pure hmix rfl (det_Right_body d ok ?_)
  refine cContainsL d.next (oddRow d) 44 _ ok.next (cl_cons (.eptr _ _ (closed_Det d)) (cl_cons (.eptr _ _ (closed_out _)) cl_nil)) (fun r hr => ?_)
  refine is44.pure hmix rfl (det_Right_2_body d r ?_)
  exact cContainsI r (outB d.next.length) 42 _ (ok.rows r hr) (cl_cons (.eptr _ _ (Z2r _)) cl_nil) (fun t _ => is42.pure hmix rfl (det_Right_1_body _ t _))
theorem cDetRun (d : Det) (ok : DetOk d) (l : List Int) (hl : Len l) : PureC Tryz.prog 81 [encDet d, encIs l] (encI (numO (runD d l))) := is81.pure hmix rfl (det_Run_body d l hl (cDetRight d ok))
theorem cDetAccepts (d : Det) (ok : DetOk d) (l : List Int) (hl : Len l) : PureC Tryz.prog 56 [encDet d, encIs l] (encB (accD d l)) := is56.pure hmix rfl (caesuraref15_Accepts_body d l (cDetRun d ok l hl))
theorem cOdd (s : Int) : PureC Tryz.prog 82 [encI s] (encB (oddS s)) := is82.pure hmix rfl (path_Write_1_body _ s)
theorem cWrite (s : List Int) (p : Int) (hs : s.length ≤ 1000000) : PureC Tryz.prog 57 [encIs s, encI p] (encIs (writeS s p)) :=
  is57.pure hmix rfl (path_Write_body s p hs (cContainsI s oddS 82 [] (by unfold Len; omega) cl_nil (fun x _ => cOdd x)))
theorem writeS_len (s : List Int) (p : Int) (hs : s.length ≤ 1000000) : Len (writeS s p) := by
  unfold writeS Len
  split
  · rw [wrL_length]; omega
  · simp
theorem cAt (d : Det) (ok : DetOk d) (l : List Int) (p : Int) (hl : l.length ≤ 1000000) : PureC Tryz.prog 33 [encDet d, encIs l, encI p] (encB (atF d l p)) :=
  is33.pureB hmix rfl (at_body d l p (cWrite l p hl) (cDetAccepts d ok _ (writeS_len l p hl)))
/-! ### atoms -/
theorem cHas41 (l : List Rg) (c : Int) : PureC Tryz.prog 41 [encRs l, encI c] (encB (hasR l c)) := is41.pure hmix rfl (caesuraref01_Has_body l c)
theorem cClass23 (atoms : List (List Rg)) (c : Int) (hl : atoms.length ≤ 100000) : PureC Tryz.prog 23 [encRss atoms, encI c] (encI (classF atoms c)) := is23.pure hmix rfl (caesuraref02_Class_body atoms c hl cHas41)
theorem cPut (l : List Int) (n : Int) (hl : l.length ≤ 100000) : PureC Tryz.prog 113 [encIs l, encI n] (encIs (putF l n)) := is113.pure hmix rfl (caesuraref01_put_body l n hl)
theorem cEdges (sets : List (List Rg)) (hl : sets.length ≤ 100) : PureC Tryz.prog 90 [encRss sets] (encIs (edgesF sets)) := is90.pure hmix rfl (caesuraref01_Edges_body sets cPut hl)
theorem cMade : HMade Tryz.prog 72 := fun a b k hk => is72.pure hmix rfl (caesuraref01_made_body a b k hk cHas41 (cEdges [a, b] (by simp)).tight1)
theorem cAnd (a b : List Rg) : PureC Tryz.prog 40 [encRs a, encRs b] (encRs (andF a b)) := is40.pure hmix rfl (caesuraref01_And_body cMade a b)
theorem cPlain (l : List Rg) : PureC Tryz.prog 70 [encRs l] (encRs (plainF l)) := is70.pure hmix rfl (caesuraref01_Plain_body l (tight2 (is89.pure hmix rfl (caesuraref01_Or_body cMade l []))))
theorem cRac : RAC Tryz.prog 37 38 39 40 := ⟨fun l => is37.pure hmix rfl (caesuraref01_First_body l (cPlain l)), fun l => is38.pure hmix rfl (caesuraref01_Right_body l (cPlain l) fun a b ha => is71.pure hmix rfl (caesuraref01_Ranges_body a b ha)),
  fun l => is39.pure hmix rfl (caesuraref01_Size_body l (cPlain l)), cAnd⟩
theorem cRight02 (atoms : List (List Rg)) : PureC Tryz.prog 21 [encRss atoms] (encB (rightA atoms)) := is21.pure hmix rfl (caesuraref02_Right_body cRac atoms)
theorem cGreat02 (sets : List (List Rg)) (g : goodRss sets) (m : Int) (hm : m ≤ 3000) : PureC Tryz.prog 9 [encRss sets, encI m] (encB (greatA sets m)) := is9.pure hmix rfl (caesuraref02_Great_body sets m hm g.1 fun s hs => (g.2 s hs).1)
theorem cSpanHas (l : List Rg) (c : Int) (hl : Len l) : PureC Tryz.prog 88 [encRs l, encI c] (encB (hasR l c)) := by
  have hcap : ∀ y ∈ [AV.eptr (encI c) 0], Closed y := cl_cons (.eptr _ _ (Z2r _)) cl_nil
  refine is88.pureB hmix rfl (spanHas_body l c hl ?_)
  exact is111.pureB hmix rfl (conR_body hcap (is124.pureB hmix rfl (idxR_body hl hcap fun x => is112.pureB hmix rfl (has1_body x c))))
theorem cClass69 (atoms : List (List Rg)) (c : Int) (g : goodRss atoms) : PureC Tryz.prog 69 [encRss atoms, encI c] (encI (classF atoms c)) := by
  have hcap : ∀ y ∈ [AV.eptr (encI c) 0], Closed y := cl_cons (.eptr _ _ (Z2r _)) cl_nil
  refine is69.pureB hmix rfl (class_body atoms c ?_)
  exact is86.pure hmix rfl (slices_IndexFunc_body (enc := encRs) g.1 (fun _ => rfl) closed_Rs hcap fun x hx => is87.pureB hmix rfl (class1_body x c (cSpanHas x c (g.2 x hx).1)))
theorem cWord (atoms : List (List Rg)) (l : List Int) (g : goodRss atoms) (hl : l.length ≤ 1000000) : PureC Tryz.prog 32 [encRss atoms, encIs l] (encWd (wordF atoms l)) := by
  refine is32.pureB hmix rfl (word_body atoms l ?_)
  exact is59.pureB hmix rfl (each_body _ l hl (cl_cons (.eptr _ _ (closed_Rss _)) cl_nil) fun x _ => is68.pureB hmix rfl (word1_body atoms x (cClass69 atoms x g)))
theorem wordF_len (atoms : List (List Rg)) (l : List Int) : (wordF atoms l).1.length ≤ l.length := by
  unfold wordF eachF; split <;> simp
theorem cShows (d : Det) (ok : DetOk d) (atoms : List (List Rg)) (g : goodRss atoms) (w : Wit) (hw : w.text.length ≤ 1000000) : PureC Tryz.prog 15 [encDet d, encRss atoms, encWj w] (encB (showsF d atoms w)) :=
  is15.pureB hmix rfl (shows_body d atoms w (cWord atoms w.text g hw) (cAt d ok _ _ (Nat.le_trans (wordF_len atoms w.text) hw)))
theorem contract (d : Det) (atoms : List (List Rg)) (w : Wit) (gd : goodDet d) (ga : goodRss atoms) (gw : goodW w) : PureC Tryz.prog 6 [encDet d, encRss atoms, encWj w] (encB true) := by
  refine is6.pureB hmix rfl (WitShows_body d atoms w cAlive (greatD d 100) (cGreat d gd.ok 100 (by omega)) (cGreat02 atoms ga 100 (by omega)) (fun _ => cRight02 atoms) fun _ hgr _ => ?_)
  refine ⟨fun c => cClass23 atoms c ?_, fun x hx => cShows d gd.ok atoms ga x (by omega), fun x y hx hy => cBefore x y (by unfold Len; omega) (by unfold Len; omega)⟩
  have := grA_le hgr
  omega
theorem own : ownKnob Tryz.prog.godebug = none := by kernel_rfl
theorem laidOut : laidOutB Tryz.prog = true := by kernel_rfl
theorem notA25 : ∃ fs, Tryz.prog.underlying 25 = some (.struct fs) ∨ ∃ n e, Tryz.prog.underlying 25 = some (.array n e) := by first | exact ⟨_, .inl under25⟩ | exact notS25
theorem isA26 : (match Tryz.prog.underlying 26 with | some (.struct _) => false | some (.array _ _) => false | _ => true) = true := by kernel_rfl
theorem notA26 : (∀ fs, Tryz.prog.underlying 26 ≠ some (.struct fs)) ∧ ∀ n e, Tryz.prog.underlying 26 ≠ some (.array n e) := ⟨fun fs h => (by have := isA26; rw [h] at this; cases this), fun n e h => (by have := isA26; rw [h] at this; cases this)⟩
theorem notA34 : ∃ fs, Tryz.prog.underlying 34 = some (.struct fs) ∨ ∃ n e, Tryz.prog.underlying 34 = some (.array n e) := by first | exact ⟨_, .inl under34⟩ | exact notS34
set_option maxRecDepth 100000 in
theorem lifted (os : Os) (started : os.Started) (H : Type) (enc : TypeId × Value → H) :
    ReturnsInHanded {} Tryz.checked os 6 .any (Rows.witShowsSpec.pre6 enc Tryz.prog Tryz.f6 Rows.witShowsRow.domain false) (Rows.witShowsSpec.post enc Tryz.prog Tryz.f6 false true false false) := by
  refine returnsInHanded_of_change_sized (C := Tryz.checked) own started (by kernel_rfl) Tryz.func6
    (ChangeSpec.witness6 (enc := enc) (C := Tryz.checked) false ⟨#[], #[.agg #[.int .i64 0, .slice none 0 0, .slice none 0 0], .slice none 0 0, .agg #[.slice none 0 0, .int .i64 0]], []⟩ 8 (by kernel_rfl) (by kernel_rfl) (by kernel_rfl) (by kernel_rfl)) ?_
  intro W base args ds gs before hval0 hW hcnd hsz0 _
  have hsz : (DataW.weightsEach Tryz.prog (Tryz.f6.params.toList ++ Rows.witShowsSpec.plain.varTypes Tryz.prog) (ds ++ gs)).all (· ≤ reachBytes) = true := hsz0
  have hval : ∀ (j : Nat) t v, Tryz.f6.params[j]? = some t → args[j]? = some v → Value.okWide Tryz.prog W .any base t v := hval0
  have hW' := hW
  obtain ⟨p, q, hA0, hV, rfl, hfz, hnd⟩ := hW
  have hA : DataW.TrodAll enc Tryz.prog W 0 (fun _ => true) true Tryz.f6.params.toList args.toList ds p := hA0
  rw [Tryz.params6] at hA hval hsz
  obtain ⟨v0, vs0, d0, ds0, p0, q0, ha0, rfl, rfl, h0, r0⟩ := trodAll_cons hA
  obtain ⟨v1, vs1, d1, ds1, p1, q1, ha1, rfl, rfl, h1, r1⟩ := trodAll_cons r0
  obtain ⟨v2, vs2, d2, ds2, p2, q2, ha2, rfl, rfl, h2, r2⟩ := trodAll_cons r1
  obtain ⟨rfl, rfl, rfl⟩ := trodAll_nil r2
  obtain rfl : args = #[v0, v1, v2] := by cases args; simp_all
  obtain ⟨rfl, rfl⟩ := trodVars_none hV
  obtain ⟨x0, g0, rep0⟩ := DecF.val dec25 (hval 0 25 v0 rfl rfl) (.inl (by first | exact ⟨_, fun _ => rfl, notA25⟩ | exact ⟨_, aggE25, notA25⟩)) h0 (light_of hsz (j := 0) rfl rfl)
  have lt0 : ∀ x ∈ p0, x.block < W.heap.size := by obtain ⟨m, hm⟩ := h0; exact DataW.trod_lt m _ _ _ hm
  obtain ⟨x1, g1, rep1⟩ := DecF.val dec26 (hval 1 26 v1 rfl rfl) (.inr ⟨fun _ => rfl, notA26⟩) h1 (light_of hsz (j := 1) rfl rfl)
  have lt1 : ∀ x ∈ p1, x.block < W.heap.size := by obtain ⟨m, hm⟩ := h1; exact DataW.trod_lt m _ _ _ hm
  obtain ⟨x2, g2, rep2⟩ := DecF.val dec34 (hval 2 34 v2 rfl rfl) (.inl (by first | exact ⟨_, fun _ => rfl, notA34⟩ | exact ⟨_, aggE34, notA34⟩)) h2 (light_of hsz (j := 2) rfl rfl)
  have lt2 : ∀ x ∈ p2, x.block < W.heap.size := by obtain ⟨m, hm⟩ := h2; exact DataW.trod_lt m _ _ _ hm
  clear hA0 hval0 hsz0 hsz
  refine ((contract x0 x1 x2 g0 g1 g2).calls W (gamN W) (reps_three rep0 rep1 rep2)).mono fun e W' ⟨he, bel⟩ => ?_
  subst he
  exact ⟨_, rfl, _, _, _, [], _, [], hW', trodAll_mk1 (shut_bool Tryz.underlying4 _), (trod_more (Below.trod laidOut (by kernel_rfl) (of_decide_eq_true (by kernel_rfl)) h0 bel lt0) (trod_more (Below.trod laidOut (by kernel_rfl) (of_decide_eq_true (by kernel_rfl)) h1 bel lt1) (trod_more (Below.trod laidOut (by kernel_rfl) (of_decide_eq_true (by kernel_rfl)) h2 bel lt2) trod_none))), rfl, bel.frame _, fun h => by cases h⟩
theorem over : Rows.witShowsRow.holds Tryz.pinned (OpenSpec.ofChange Rows.witShowsSpec) :=
  OpenClaim.holds_of_wide 6 Tryz.f6 rfl rfl rfl rfl rfl rfl rfl ⟨rfl, rfl, rfl, rfl, rfl⟩ rfl rfl rfl rfl rfl (by kernel_rfl) Tryz.func6 (by kernel_rfl)
    (of_decide_eq_true (by kernel_rfl)) (by unfold Func.isWrapper; first | (rw [if_pos (by decide +kernel)]; kernel_rfl) | (rw [if_neg (by decide +kernel)]; exact ⟨rfl, rfl⟩))
    (fun os started H enc _ => lifted os started H enc)
theorem proved : Rows.WitShowsSaid := over
end Go.Proofs.YtidkjfaeolfcaaaGreat

