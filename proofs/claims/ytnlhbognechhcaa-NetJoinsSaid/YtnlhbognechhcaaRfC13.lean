import Derived.Test.YtnlhbognechhcaaRows
import Derived.Test.YtnlhbognechhcaaRfNew
import Derived.Test.YtnlhbognechhcaaRfN4
import Derived.Test.YtnlhbognechhcaaRfB16
import Derived.Test.YtnlhbognechhcaaRfK13
import Derived.WalkKit
import Derived.ProofKit
import Derived.Below
import Derived.SizedLaws
import Derived.KernelRfl
set_option linter.unusedVariables false
set_option linter.unusedSimpArgs false
namespace Go.Proofs.Ytnlhbognechhcaa
open Go.ChangeShapes Go.WideShapes Go.ChangeAt Go.RowKit Go.Rf

theorem hmix : Try.prog.follows .mixedOrders = true := by kernel_rfl
theorem is6 : Is Try.prog 6 (c_caesuraref13_Great) [4] 2 := ⟨Try.f6, Try.f6.body.getD .skip, Try.func6, by kernel_rfl, by kernel_rfl, by kernel_rfl, by kernel_rfl, by rw [Try.ntmps6]; decide⟩
theorem is7 : Is Try.prog 7 (c_caesuraref01_Ints) [4] 2 := ⟨Try.f7, Try.f7.body.getD .skip, Try.func7, by kernel_rfl, by kernel_rfl, by kernel_rfl, by kernel_rfl, by rw [Try.ntmps7]; decide⟩
theorem is8 : Is Try.prog 8 (c_net_Step 10 19) [6] 3 := ⟨Try.f8, Try.f8.body.getD .skip, Try.func8, by kernel_rfl, by kernel_rfl, by kernel_rfl, by kernel_rfl, by rw [Try.ntmps8]; decide⟩
theorem is9 : Is Try.prog 9 (c_caesuraref13_Step 11 20 21) [6] 3 := ⟨Try.f9, Try.f9.body.getD .skip, Try.func9, by kernel_rfl, by kernel_rfl, by kernel_rfl, by kernel_rfl, by rw [Try.ntmps9]; decide⟩
theorem is10 : Is Try.prog 10 (c_net_Right 22) [2] 1 := ⟨Try.f10, Try.f10.body.getD .skip, Try.func10, by kernel_rfl, by kernel_rfl, by kernel_rfl, by kernel_rfl, by rw [Try.ntmps10]; decide⟩
theorem is11 : Is Try.prog 11 (c_caesuraref13_Right 23) [2] 1 := ⟨Try.f11, Try.f11.body.getD .skip, Try.func11, by kernel_rfl, by kernel_rfl, by kernel_rfl, by kernel_rfl, by rw [Try.ntmps11]; decide⟩
theorem is12 : Is Try.prog 12 (c_net_Accepts 10 19 25 24) [4] 2 := ⟨Try.f12, Try.f12.body.getD .skip, Try.func12, by kernel_rfl, by kernel_rfl, by kernel_rfl, by kernel_rfl, by rw [Try.ntmps12]; decide⟩
theorem is13 : Is Try.prog 13 (c_caesuraref13_Accepts 9 11 20) [4] 2 := ⟨Try.f13, Try.f13.body.getD .skip, Try.func13, by kernel_rfl, by kernel_rfl, by kernel_rfl, by kernel_rfl, by rw [Try.ntmps13]; decide⟩
theorem is14 : Is Try.prog 14 (c_net_Same 27 28) [4] 2 := ⟨Try.f14, Try.f14.body.getD .skip, Try.func14, by kernel_rfl, by kernel_rfl, by kernel_rfl, by kernel_rfl, by rw [Try.ntmps14]; decide⟩
theorem is15 : Is Try.prog 15 (c_caesuraref13_Same 29 7) [4] 2 := ⟨Try.f15, Try.f15.body.getD .skip, Try.func15, by kernel_rfl, by kernel_rfl, by kernel_rfl, by kernel_rfl, by rw [Try.ntmps15]; decide⟩
theorem is19 : Is Try.prog 19 (c_net_step 26 33) [6] 3 := ⟨Try.f19, Try.f19.body.getD .skip, Try.func19, by kernel_rfl, by kernel_rfl, by kernel_rfl, by kernel_rfl, by rw [Try.ntmps19]; decide⟩
theorem is20 : Is Try.prog 20 (c_caesuraref13_has) [4] 2 := ⟨Try.f20, Try.f20.body.getD .skip, Try.func20, by kernel_rfl, by kernel_rfl, by kernel_rfl, by kernel_rfl, by rw [Try.ntmps20]; decide⟩
theorem is21 : Is Try.prog 21 (c_caesuraref01_put) [4] 2 := ⟨Try.f21, Try.f21.body.getD .skip, Try.func21, by kernel_rfl, by kernel_rfl, by kernel_rfl, by kernel_rfl, by rw [Try.ntmps21]; decide⟩
theorem is22 : Is Try.prog 22 (c_net_lies 33 28) [6] 3 := ⟨Try.f22, Try.f22.body.getD .skip, Try.func22, by kernel_rfl, by kernel_rfl, by kernel_rfl, by kernel_rfl, by rw [Try.ntmps22]; decide⟩
theorem is23 : Is Try.prog 23 (c_caesuraref13_rising) [6] 3 := ⟨Try.f23, Try.f23.body.getD .skip, Try.func23, by kernel_rfl, by kernel_rfl, by kernel_rfl, by kernel_rfl, by rw [Try.ntmps23]; decide⟩
theorem is24 : Is Try.prog 24 (c_slices_ContainsFunc 35) [4] 2 := ⟨Try.f24, Try.f24.body.getD .skip, Try.func24, by kernel_rfl, by kernel_rfl, by kernel_rfl, by kernel_rfl, by rw [Try.ntmps24]; decide⟩
theorem is25 : Is Try.prog 25 (c_net_Accepts_1 26) [3] 2 := ⟨Try.f25, Try.f25.body.getD .skip, Try.func25, by kernel_rfl, by kernel_rfl, by kernel_rfl, by kernel_rfl, by rw [Try.ntmps25]; decide⟩
theorem is26 : Is Try.prog 26 (c_slices_Contains_Sint_int_ 36) [4] 2 := ⟨Try.f26, Try.f26.body.getD .skip, Try.func26, by kernel_rfl, by kernel_rfl, by kernel_rfl, by kernel_rfl, by rw [Try.ntmps26]; decide⟩
theorem is27 : Is Try.prog 27 (c_slices_EqualFunc_SSint_SSint_Sint_Sint_) [6] 3 := ⟨Try.f27, Try.f27.body.getD .skip, Try.func27, by kernel_rfl, by kernel_rfl, by kernel_rfl, by kernel_rfl, by rw [Try.ntmps27]; decide⟩
theorem is28 : Is Try.prog 28 (c_slices_Equal_Sint_int_) [4] 2 := ⟨Try.f28, Try.f28.body.getD .skip, Try.func28, by kernel_rfl, by kernel_rfl, by kernel_rfl, by kernel_rfl, by rw [Try.ntmps28]; decide⟩
theorem is29 : Is Try.prog 29 (c_caesuraref13_Lists 7) [4] 2 := ⟨Try.f29, Try.f29.body.getD .skip, Try.func29, by kernel_rfl, by kernel_rfl, by kernel_rfl, by kernel_rfl, by rw [Try.ntmps29]; decide⟩
theorem is33 : Is Try.prog 33 (c_net_set 34 43 44) [2] 1 := ⟨Try.f33, Try.f33.body.getD .skip, Try.func33, by kernel_rfl, by kernel_rfl, by kernel_rfl, by kernel_rfl, by rw [Try.ntmps33]; decide⟩
theorem is35 : Is Try.prog 35 (c_slices_IndexFunc) [4] 2 := ⟨Try.f35, Try.f35.body.getD .skip, Try.func35, by kernel_rfl, by kernel_rfl, by kernel_rfl, by kernel_rfl, by rw [Try.ntmps35]; decide⟩
theorem is36 : Is Try.prog 36 (c_slices_Index_Sint_int_) [4] 2 := ⟨Try.f36, Try.f36.body.getD .skip, Try.func36, by kernel_rfl, by kernel_rfl, by kernel_rfl, by kernel_rfl, by rw [Try.ntmps36]; decide⟩
theorem is34 : Is Try.prog 34 (c_slices_Clone 1 8 (.v (.int .i64 0))) [2] 1 := ⟨Try.f34, Try.f34.body.getD .skip, Try.func34, by kernel_rfl, by kernel_rfl, by kernel_rfl, by kernel_rfl, by rw [Try.ntmps34]; decide⟩
theorem byClone : ByC Try.prog 34 (c_cloneOv 1 8 (.v (.int .i64 0))) [.t 2] 1 := Clone_by hmix is34
noncomputable def tab : Tab := tabS Try.prog (fun f => bif Nat.beq f 34 then some (c_cloneOv 1 8 (.v (.int .i64 0)), [.t 2], 1) else none) (fun _ => none)
theorem tabOk : TabOk Try.prog tab := by
  refine tabS_ok hmix (fun f p h => ?_) (fun f g args v h => by cases h)
  cases hb : Nat.beq f 34 with
  | true =>
    rw [hb] at h
    have : f = 34 := Nat.eq_of_beq_eq_true hb
    subst this
    cases h; exact @byClone
  | false => rw [hb] at h; cases h
theorem isAlive : fnK tab (runF tab 500) 5 [] = some (encB true, true) := by kernel_rfl
theorem cAlive : PureC Try.prog 5 [] (encB true) := .runX hmix tabOk 500 isAlive
theorem sort0 : fnK tab (runF tab 500) 43 [.sl true []] = some (.tup [], true) := by kernel_rfl
theorem comp0 : fnK tab (runF tab 500) 44 [.sl true []] = some (.sl true [], true) := by kernel_rfl
end Go.Proofs.Ytnlhbognechhcaa

