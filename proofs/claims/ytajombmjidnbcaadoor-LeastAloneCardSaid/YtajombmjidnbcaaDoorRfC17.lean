import Derived.Test.YtajombmjidnbcaaDoorRows
import Derived.Test.YtajombmjidnbcaaDoorRfSort
import Derived.Test.YtajombmjidnbcaaDoorRfF1
import Derived.Test.YtajombmjidnbcaaDoorRfB3
import Derived.Test.YtajombmjidnbcaaDoorRfK17
import Derived.Test.YtajombmjidnbcaaDoorRfP5
import Derived.Test.YtajombmjidnbcaaDoorRfRun
import Derived.WalkKit
import Derived.ProofKit
import Derived.Below
import Derived.SizedLaws
import Derived.KernelRfl
/- Own work: layer 17 at its seat: its functions' codes. -/
set_option linter.unusedVariables false
set_option linter.unusedSimpArgs false
namespace Go.Proofs.YtajombmjidnbcaaDoor
open Go.ChangeShapes Go.WideShapes Go.ChangeAt Go.RowKit Go.Rf

theorem hmix : Tryd.prog.follows .mixedOrders = true := by kernel_rfl
theorem is9 : Is Tryd.prog 9 (c_caesuraref15_Great) [4] 2 := ⟨Tryd.f9, Tryd.f9.body.getD .skip, Tryd.func9, by kernel_rfl, by kernel_rfl, by kernel_rfl, by kernel_rfl, by rw [Tryd.ntmps9]; decide⟩
theorem is12 : Is Tryd.prog 12 (c_caesuraref15_Same 30 31) [4] 2 := ⟨Tryd.f12, Tryd.f12.body.getD .skip, Tryd.func12, by kernel_rfl, by kernel_rfl, by kernel_rfl, by kernel_rfl, by rw [Tryd.ntmps12]; decide⟩
theorem is13 : Is Tryd.prog 13 (c_least_Right 10 32) [2] 1 := ⟨Tryd.f13, Tryd.f13.body.getD .skip, Tryd.func13, by kernel_rfl, by kernel_rfl, by kernel_rfl, by kernel_rfl, by rw [Tryd.ntmps13]; decide⟩
theorem is14 : Is Tryd.prog 14 (c_caesuraref17_Right 11 12) [2] 1 := ⟨Tryd.f14, Tryd.f14.body.getD .skip, Tryd.func14, by kernel_rfl, by kernel_rfl, by kernel_rfl, by kernel_rfl, by rw [Tryd.ntmps14]; decide⟩
theorem is15 : Is Tryd.prog 15 (c_least_Equal 33 34 10 32) [4] 2 := ⟨Tryd.f15, Tryd.f15.body.getD .skip, Tryd.func15, by kernel_rfl, by kernel_rfl, by kernel_rfl, by kernel_rfl, by rw [Tryd.ntmps15]; decide⟩
theorem is16 : Is Tryd.prog 16 (c_caesuraref17_Equal 11 12) [4] 2 := ⟨Tryd.f16, Tryd.f16.body.getD .skip, Tryd.func16, by kernel_rfl, by kernel_rfl, by kernel_rfl, by kernel_rfl, by rw [Tryd.ntmps16]; decide⟩
theorem is17 : Is Tryd.prog 17 (c_caesuraref01_Ints) [4] 2 := ⟨Tryd.f17, Tryd.f17.body.getD .skip, Tryd.func17, by kernel_rfl, by kernel_rfl, by kernel_rfl, by kernel_rfl, by rw [Tryd.ntmps17]; decide⟩
theorem is18 : Is Tryd.prog 18 (c_least_Classes 28 29) [2] 1 := ⟨Tryd.f18, Tryd.f18.body.getD .skip, Tryd.func18, by kernel_rfl, by kernel_rfl, by kernel_rfl, by kernel_rfl, by rw [Tryd.ntmps18]; decide⟩
theorem is19 : Is Tryd.prog 19 (c_caesuraref17_Classes 20 35) [2] 1 := ⟨Tryd.f19, Tryd.f19.body.getD .skip, Tryd.func19, by kernel_rfl, by kernel_rfl, by kernel_rfl, by kernel_rfl, by rw [Tryd.ntmps19]; decide⟩
theorem is20 : Is Tryd.prog 20 (c_caesuraref15_Right) [2] 1 := ⟨Tryd.f20, Tryd.f20.body.getD .skip, Tryd.func20, by kernel_rfl, by kernel_rfl, by kernel_rfl, by kernel_rfl, by rw [Tryd.ntmps20]; decide⟩
theorem is21 : Is Tryd.prog 21 (c_caesuraref17_Fewest 19 36) [2] 1 := ⟨Tryd.f21, Tryd.f21.body.getD .skip, Tryd.func21, by kernel_rfl, by kernel_rfl, by kernel_rfl, by kernel_rfl, by rw [Tryd.ntmps21]; decide⟩
theorem is22 : Is Tryd.prog 22 (c_caesuraref15_Accepts 37) [4] 2 := ⟨Tryd.f22, Tryd.f22.body.getD .skip, Tryd.func22, by kernel_rfl, by kernel_rfl, by kernel_rfl, by kernel_rfl, by rw [Tryd.ntmps22]; decide⟩
theorem is28 : Is Tryd.prog 28 (c_det_Right 40 42 41) [2] 1 := ⟨Tryd.f28, Tryd.f28.body.getD .skip, Tryd.func28, by kernel_rfl, by kernel_rfl, by kernel_rfl, by kernel_rfl, by rw [Tryd.ntmps28]; decide⟩
theorem is29 : Is Tryd.prog 29 (c_least_classes 44 45) [2] 1 := ⟨Tryd.f29, Tryd.f29.body.getD .skip, Tryd.func29, by kernel_rfl, by kernel_rfl, by kernel_rfl, by kernel_rfl, by rw [Tryd.ntmps29]; decide⟩
theorem is30 : Is Tryd.prog 30 (c_caesuraref13_Lists 17) [4] 2 := ⟨Tryd.f30, Tryd.f30.body.getD .skip, Tryd.func30, by kernel_rfl, by kernel_rfl, by kernel_rfl, by kernel_rfl, by rw [Tryd.ntmps30]; decide⟩
theorem is31 : Is Tryd.prog 31 (c_caesuraref15_Bools) [4] 2 := ⟨Tryd.f31, Tryd.f31.body.getD .skip, Tryd.func31, by kernel_rfl, by kernel_rfl, by kernel_rfl, by kernel_rfl, by rw [Tryd.ntmps31]; decide⟩
theorem is32 : Is Tryd.prog 32 (c_det_Same 46 47 48) [4] 2 := ⟨Tryd.f32, Tryd.f32.body.getD .skip, Tryd.func32, by kernel_rfl, by kernel_rfl, by kernel_rfl, by kernel_rfl, by rw [Tryd.ntmps32]; decide⟩
theorem is33 : Is Tryd.prog 33 (c_least_Equal_1 28) [2] 1 := ⟨Tryd.f33, Tryd.f33.body.getD .skip, Tryd.func33, by kernel_rfl, by kernel_rfl, by kernel_rfl, by kernel_rfl, by rw [Tryd.ntmps33]; decide⟩
theorem is35 : Is Tryd.prog 35 (c_caesuraref17_apart) [2] 1 := ⟨Tryd.f35, Tryd.f35.body.getD .skip, Tryd.func35, by kernel_rfl, by kernel_rfl, by kernel_rfl, by kernel_rfl, by rw [Tryd.ntmps35]; decide⟩
theorem is36 : Is Tryd.prog 36 (c_caesuraref17_reached 39) [2] 1 := ⟨Tryd.f36, Tryd.f36.body.getD .skip, Tryd.func36, by kernel_rfl, by kernel_rfl, by kernel_rfl, by kernel_rfl, by rw [Tryd.ntmps36]; decide⟩
theorem is37 : Is Tryd.prog 37 (c_caesuraref15_Run 20) [4] 2 := ⟨Tryd.f37, Tryd.f37.body.getD .skip, Tryd.func37, by kernel_rfl, by kernel_rfl, by kernel_rfl, by kernel_rfl, by rw [Tryd.ntmps37]; decide⟩
theorem is40 : Is Tryd.prog 40 (c_det_Right_1) [3] 2 := ⟨Tryd.f40, Tryd.f40.body.getD .skip, Tryd.func40, by kernel_rfl, by kernel_rfl, by kernel_rfl, by kernel_rfl, by rw [Tryd.ntmps40]; decide⟩
theorem is41 : Is Tryd.prog 41 (c_slices_ContainsFunc 51) [4] 2 := ⟨Tryd.f41, Tryd.f41.body.getD .skip, Tryd.func41, by kernel_rfl, by kernel_rfl, by kernel_rfl, by kernel_rfl, by rw [Tryd.ntmps41]; decide⟩
theorem is42 : Is Tryd.prog 42 (c_det_Right_2 43) [4] 3 := ⟨Tryd.f42, Tryd.f42.body.getD .skip, Tryd.func42, by kernel_rfl, by kernel_rfl, by kernel_rfl, by kernel_rfl, by rw [Tryd.ntmps42]; decide⟩
theorem is43 : Is Tryd.prog 43 (c_slices_ContainsFunc 52) [4] 2 := ⟨Tryd.f43, Tryd.f43.body.getD .skip, Tryd.func43, by kernel_rfl, by kernel_rfl, by kernel_rfl, by kernel_rfl, by rw [Tryd.ntmps43]; decide⟩
theorem is44 : Is Tryd.prog 44 (c_least_coarse) [2] 1 := ⟨Tryd.f44, Tryd.f44.body.getD .skip, Tryd.func44, by kernel_rfl, by kernel_rfl, by kernel_rfl, by kernel_rfl, by rw [Tryd.ntmps44]; decide⟩
theorem is45 : Is Tryd.prog 45 (c_least_finer 53) [4, 5] 2 := ⟨Tryd.f45, Tryd.f45.body.getD .skip, Tryd.func45, by kernel_rfl, by kernel_rfl, by kernel_rfl, by kernel_rfl, by rw [Tryd.ntmps45]; decide⟩
theorem is46 : Is Tryd.prog 46 (c_slices_EqualFunc_SSint_SSint_Sint_Sint_) [6] 3 := ⟨Tryd.f46, Tryd.f46.body.getD .skip, Tryd.func46, by kernel_rfl, by kernel_rfl, by kernel_rfl, by kernel_rfl, by rw [Tryd.ntmps46]; decide⟩
theorem is47 : Is Tryd.prog 47 (c_slices_Equal_Sint_int_) [4] 2 := ⟨Tryd.f47, Tryd.f47.body.getD .skip, Tryd.func47, by kernel_rfl, by kernel_rfl, by kernel_rfl, by kernel_rfl, by rw [Tryd.ntmps47]; decide⟩
theorem is48 : Is Tryd.prog 48 (c_slices_Equal_Sbool_bool_) [4] 2 := ⟨Tryd.f48, Tryd.f48.body.getD .skip, Tryd.func48, by kernel_rfl, by kernel_rfl, by kernel_rfl, by kernel_rfl, by rw [Tryd.ntmps48]; decide⟩
theorem is51 : Is Tryd.prog 51 (c_slices_IndexFunc) [4] 2 := ⟨Tryd.f51, Tryd.f51.body.getD .skip, Tryd.func51, by kernel_rfl, by kernel_rfl, by kernel_rfl, by kernel_rfl, by rw [Tryd.ntmps51]; decide⟩
theorem is52 : Is Tryd.prog 52 (c_slices_IndexFunc) [4] 2 := ⟨Tryd.f52, Tryd.f52.body.getD .skip, Tryd.func52, by kernel_rfl, by kernel_rfl, by kernel_rfl, by kernel_rfl, by rw [Tryd.ntmps52]; decide⟩
theorem is53 : Is Tryd.prog 53 (c_least_view 55 54 56 57) [6] 3 := ⟨Tryd.f53, Tryd.f53.body.getD .skip, Tryd.func53, by kernel_rfl, by kernel_rfl, by kernel_rfl, by kernel_rfl, by rw [Tryd.ntmps53]; decide⟩
theorem is34 : Is Tryd.prog 34 (c_slices_ContainsFunc_Sapi_Det_api_Det_ 49) [4] 2 := ⟨Tryd.f34, Tryd.f34.body.getD .skip, Tryd.func34, by kernel_rfl, by kernel_rfl, by kernel_rfl, by kernel_rfl, by rw [Tryd.ntmps34]; decide⟩
theorem is49 : Is Tryd.prog 49 c_slices_IndexFunc_Sapi_Det_api_Det_ [4] 2 := ⟨Tryd.f49, Tryd.f49.body.getD .skip, Tryd.func49, by kernel_rfl, by kernel_rfl, by kernel_rfl, by kernel_rfl, by rw [Tryd.ntmps49]; decide⟩
theorem isc10 : IsC Tryd.prog 10 (c_least_Of 28 29) [.c 2 (some 3), .t 3] 1 := ⟨Tryd.f10, Tryd.f10.body.getD .skip, Tryd.func10, by kernel_rfl, by kernel_rfl, by kernel_rfl, by kernel_rfl, by rw [Tryd.ntmps10]; decide⟩
theorem isc11 : IsC Tryd.prog 11 (c_caesuraref17_Of 20 19) [.c 2 (some 3), .t 3] 1 := ⟨Tryd.f11, Tryd.f11.body.getD .skip, Tryd.func11, by kernel_rfl, by kernel_rfl, by kernel_rfl, by kernel_rfl, by rw [Tryd.ntmps11]; decide⟩
theorem al53 : AllocIs Tryd.prog 53 71 := by unfold AllocIs; kernel_rfl
end Go.Proofs.YtajombmjidnbcaaDoor

