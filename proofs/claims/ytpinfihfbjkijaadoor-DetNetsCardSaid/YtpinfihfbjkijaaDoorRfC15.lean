import Derived.Test.YtpinfihfbjkijaaDoorRows
import Derived.Test.YtpinfihfbjkijaaDoorRfKl
import Derived.Test.YtpinfihfbjkijaaDoorRfCat
import Derived.Test.YtpinfihfbjkijaaDoorRfSort
import Derived.Test.YtpinfihfbjkijaaDoorRfL10
import Derived.Test.YtpinfihfbjkijaaDoorRfF1
import Derived.Test.YtpinfihfbjkijaaDoorRfE8
import Derived.Test.YtpinfihfbjkijaaDoorRfK15
import Derived.Test.YtpinfihfbjkijaaDoorRfRun
import Derived.WalkKit
import Derived.ProofKit
import Derived.Below
import Derived.SizedLaws
import Derived.KernelRfl
/- Own work: layer 15 at its seat: its functions' codes, its types. -/
set_option linter.unusedVariables false
set_option linter.unusedSimpArgs false
namespace Go.Proofs.YtpinfihfbjkijaaDoor
open Go.ChangeShapes Go.WideShapes Go.ChangeAt Go.RowKit Go.Rf

theorem hmix : Tryd.prog.follows .mixedOrders = true := by kernel_rfl
theorem is15 : Is Tryd.prog 15 (c_caesuraref15_Same 35 36) [4] 2 := ⟨Tryd.f15, Tryd.f15.body.getD .skip, Tryd.func15, by kernel_rfl, by kernel_rfl, by kernel_rfl, by kernel_rfl, by rw [Tryd.ntmps15]; decide⟩
theorem is16 : Is Tryd.prog 16 (c_caesuraref15_Great) [4] 2 := ⟨Tryd.f16, Tryd.f16.body.getD .skip, Tryd.func16, by kernel_rfl, by kernel_rfl, by kernel_rfl, by kernel_rfl, by rw [Tryd.ntmps16]; decide⟩
theorem is17 : Is Tryd.prog 17 (c_det_Right 37 39 38) [2] 1 := ⟨Tryd.f17, Tryd.f17.body.getD .skip, Tryd.func17, by kernel_rfl, by kernel_rfl, by kernel_rfl, by kernel_rfl, by rw [Tryd.ntmps17]; decide⟩
theorem is18 : Is Tryd.prog 18 (c_caesuraref15_Right) [2] 1 := ⟨Tryd.f18, Tryd.f18.body.getD .skip, Tryd.func18, by kernel_rfl, by kernel_rfl, by kernel_rfl, by kernel_rfl, by rw [Tryd.ntmps18]; decide⟩
theorem is19 : Is Tryd.prog 19 (c_det_Run 17) [4] 2 := ⟨Tryd.f19, Tryd.f19.body.getD .skip, Tryd.func19, by kernel_rfl, by kernel_rfl, by kernel_rfl, by kernel_rfl, by rw [Tryd.ntmps19]; decide⟩
theorem is20 : Is Tryd.prog 20 (c_caesuraref15_Run 18) [4] 2 := ⟨Tryd.f20, Tryd.f20.body.getD .skip, Tryd.func20, by kernel_rfl, by kernel_rfl, by kernel_rfl, by kernel_rfl, by rw [Tryd.ntmps20]; decide⟩
theorem is21 : Is Tryd.prog 21 (c_caesuraref15_Accepts 19) [4] 2 := ⟨Tryd.f21, Tryd.f21.body.getD .skip, Tryd.func21, by kernel_rfl, by kernel_rfl, by kernel_rfl, by kernel_rfl, by rw [Tryd.ntmps21]; decide⟩
theorem is22 : Is Tryd.prog 22 (c_caesuraref15_Accepts 20) [4] 2 := ⟨Tryd.f22, Tryd.f22.body.getD .skip, Tryd.func22, by kernel_rfl, by kernel_rfl, by kernel_rfl, by kernel_rfl, by rw [Tryd.ntmps22]; decide⟩
theorem is23 : Is Tryd.prog 23 (c_det_Same 41 42 43) [4] 2 := ⟨Tryd.f23, Tryd.f23.body.getD .skip, Tryd.func23, by kernel_rfl, by kernel_rfl, by kernel_rfl, by kernel_rfl, by rw [Tryd.ntmps23]; decide⟩
theorem is29 : Is Tryd.prog 29 (c_det_maker_step 51 52 53) [6] 3 := ⟨Tryd.f29, Tryd.f29.body.getD .skip, Tryd.func29, by kernel_rfl, by kernel_rfl, by kernel_rfl, by kernel_rfl, by rw [Tryd.ntmps29]; decide⟩
theorem is31 : Is Tryd.prog 31 (c_det_Tails_1 29 32) [6] 3 := ⟨Tryd.f31, Tryd.f31.body.getD .skip, Tryd.func31, by kernel_rfl, by kernel_rfl, by kernel_rfl, by kernel_rfl, by rw [Tryd.ntmps31]; decide⟩
theorem is33 : Is Tryd.prog 33 (c_det_Heads_1 34 29) [6] 3 := ⟨Tryd.f33, Tryd.f33.body.getD .skip, Tryd.func33, by kernel_rfl, by kernel_rfl, by kernel_rfl, by kernel_rfl, by rw [Tryd.ntmps33]; decide⟩
theorem is34 : Is Tryd.prog 34 (c_det_maker_ends 58 40) [4] 2 := ⟨Tryd.f34, Tryd.f34.body.getD .skip, Tryd.func34, by kernel_rfl, by kernel_rfl, by kernel_rfl, by kernel_rfl, by rw [Tryd.ntmps34]; decide⟩
theorem is35 : Is Tryd.prog 35 (c_caesuraref13_Lists 55) [4] 2 := ⟨Tryd.f35, Tryd.f35.body.getD .skip, Tryd.func35, by kernel_rfl, by kernel_rfl, by kernel_rfl, by kernel_rfl, by rw [Tryd.ntmps35]; decide⟩
theorem is36 : Is Tryd.prog 36 (c_caesuraref15_Bools) [4] 2 := ⟨Tryd.f36, Tryd.f36.body.getD .skip, Tryd.func36, by kernel_rfl, by kernel_rfl, by kernel_rfl, by kernel_rfl, by rw [Tryd.ntmps36]; decide⟩
theorem is37 : Is Tryd.prog 37 (c_det_Right_1) [3] 2 := ⟨Tryd.f37, Tryd.f37.body.getD .skip, Tryd.func37, by kernel_rfl, by kernel_rfl, by kernel_rfl, by kernel_rfl, by rw [Tryd.ntmps37]; decide⟩
theorem is38 : Is Tryd.prog 38 (c_slices_ContainsFunc 59) [4] 2 := ⟨Tryd.f38, Tryd.f38.body.getD .skip, Tryd.func38, by kernel_rfl, by kernel_rfl, by kernel_rfl, by kernel_rfl, by rw [Tryd.ntmps38]; decide⟩
theorem is39 : Is Tryd.prog 39 (c_det_Right_2 40) [4] 3 := ⟨Tryd.f39, Tryd.f39.body.getD .skip, Tryd.func39, by kernel_rfl, by kernel_rfl, by kernel_rfl, by kernel_rfl, by rw [Tryd.ntmps39]; decide⟩
theorem is40 : Is Tryd.prog 40 (c_slices_ContainsFunc 60) [4] 2 := ⟨Tryd.f40, Tryd.f40.body.getD .skip, Tryd.func40, by kernel_rfl, by kernel_rfl, by kernel_rfl, by kernel_rfl, by rw [Tryd.ntmps40]; decide⟩
theorem is41 : Is Tryd.prog 41 (c_slices_EqualFunc_SSint_SSint_Sint_Sint_) [6] 3 := ⟨Tryd.f41, Tryd.f41.body.getD .skip, Tryd.func41, by kernel_rfl, by kernel_rfl, by kernel_rfl, by kernel_rfl, by rw [Tryd.ntmps41]; decide⟩
theorem is42 : Is Tryd.prog 42 (c_slices_Equal_Sint_int_) [4] 2 := ⟨Tryd.f42, Tryd.f42.body.getD .skip, Tryd.func42, by kernel_rfl, by kernel_rfl, by kernel_rfl, by kernel_rfl, by rw [Tryd.ntmps42]; decide⟩
theorem is43 : Is Tryd.prog 43 (c_slices_Equal_Sbool_bool_) [4] 2 := ⟨Tryd.f43, Tryd.f43.body.getD .skip, Tryd.func43, by kernel_rfl, by kernel_rfl, by kernel_rfl, by kernel_rfl, by rw [Tryd.ntmps43]; decide⟩
theorem is47 : Is Tryd.prog 47 (c_net_Right 62) [2] 1 := ⟨Tryd.f47, Tryd.f47.body.getD .skip, Tryd.func47, by kernel_rfl, by kernel_rfl, by kernel_rfl, by kernel_rfl, by rw [Tryd.ntmps47]; decide⟩
theorem is50 : Is Tryd.prog 50 (c_det_make1_2) [6] 4 := ⟨Tryd.f50, Tryd.f50.body.getD .skip, Tryd.func50, by kernel_rfl, by kernel_rfl, by kernel_rfl, by kernel_rfl, by rw [Tryd.ntmps50]; decide⟩
theorem is51 : Is Tryd.prog 51 (c_slices_Contains_Sint_int_ 64) [4] 2 := ⟨Tryd.f51, Tryd.f51.body.getD .skip, Tryd.func51, by kernel_rfl, by kernel_rfl, by kernel_rfl, by kernel_rfl, by rw [Tryd.ntmps51]; decide⟩
theorem is55 : Is Tryd.prog 55 (c_caesuraref01_Ints) [4] 2 := ⟨Tryd.f55, Tryd.f55.body.getD .skip, Tryd.func55, by kernel_rfl, by kernel_rfl, by kernel_rfl, by kernel_rfl, by rw [Tryd.ntmps55]; decide⟩
theorem is58 : Is Tryd.prog 58 (c_det_maker_ends_1 51) [3] 2 := ⟨Tryd.f58, Tryd.f58.body.getD .skip, Tryd.func58, by kernel_rfl, by kernel_rfl, by kernel_rfl, by kernel_rfl, by rw [Tryd.ntmps58]; decide⟩
theorem is59 : Is Tryd.prog 59 (c_slices_IndexFunc) [4] 2 := ⟨Tryd.f59, Tryd.f59.body.getD .skip, Tryd.func59, by kernel_rfl, by kernel_rfl, by kernel_rfl, by kernel_rfl, by rw [Tryd.ntmps59]; decide⟩
theorem is60 : Is Tryd.prog 60 (c_slices_IndexFunc) [4] 2 := ⟨Tryd.f60, Tryd.f60.body.getD .skip, Tryd.func60, by kernel_rfl, by kernel_rfl, by kernel_rfl, by kernel_rfl, by rw [Tryd.ntmps60]; decide⟩
theorem is62 : Is Tryd.prog 62 (c_net_lies 69 42) [6] 3 := ⟨Tryd.f62, Tryd.f62.body.getD .skip, Tryd.func62, by kernel_rfl, by kernel_rfl, by kernel_rfl, by kernel_rfl, by rw [Tryd.ntmps62]; decide⟩
theorem is64 : Is Tryd.prog 64 (c_slices_Index_Sint_int_) [4] 2 := ⟨Tryd.f64, Tryd.f64.body.getD .skip, Tryd.func64, by kernel_rfl, by kernel_rfl, by kernel_rfl, by kernel_rfl, by rw [Tryd.ntmps64]; decide⟩
theorem is69 : Is Tryd.prog 69 (c_net_set 82 52 53) [2] 1 := ⟨Tryd.f69, Tryd.f69.body.getD .skip, Tryd.func69, by kernel_rfl, by kernel_rfl, by kernel_rfl, by kernel_rfl, by rw [Tryd.ntmps69]; decide⟩
theorem is70 : Is Tryd.prog 70 (c_det_text 84 83 85 86) [2] 1 := ⟨Tryd.f70, Tryd.f70.body.getD .skip, Tryd.func70, by kernel_rfl, by kernel_rfl, by kernel_rfl, by kernel_rfl, by rw [Tryd.ntmps70]; decide⟩
theorem is82 : Is Tryd.prog 82 (c_slices_Clone 1 8 (.v (.int .i64 0))) [2] 1 := ⟨Tryd.f82, Tryd.f82.body.getD .skip, Tryd.func82, by kernel_rfl, by kernel_rfl, by kernel_rfl, by kernel_rfl, by rw [Tryd.ntmps82]; decide⟩
theorem is57 : Is Tryd.prog 57 (c_Grow 1 8 (.v (.int .i64 0))) [4] 2 := ⟨Tryd.f57, Tryd.f57.body.getD .skip, Tryd.func57, by kernel_rfl, by kernel_rfl, by kernel_rfl, by kernel_rfl, by rw [Tryd.ntmps57]; decide⟩
theorem is32 : Is Tryd.prog 32 (c_Concat 1 8 57) [2] 1 := ⟨Tryd.f32, Tryd.f32.body.getD .skip, Tryd.func32, by kernel_rfl, by kernel_rfl, by kernel_rfl, by kernel_rfl, by rw [Tryd.ntmps32]; decide⟩
theorem isc9 : IsC Tryd.prog 9 (c_det_Whole 28 29) [.c 4 (some 3), .t 5] 2 := ⟨Tryd.f9, Tryd.f9.body.getD .skip, Tryd.func9, by kernel_rfl, by kernel_rfl, by kernel_rfl, by kernel_rfl, by rw [Tryd.ntmps9]; decide⟩
theorem isc11 : IsC Tryd.prog 11 (c_det_Whole 28 31) [.c 4 (some 3), .t 5] 2 := ⟨Tryd.f11, Tryd.f11.body.getD .skip, Tryd.func11, by kernel_rfl, by kernel_rfl, by kernel_rfl, by kernel_rfl, by rw [Tryd.ntmps11]; decide⟩
theorem isc13 : IsC Tryd.prog 13 (c_det_Whole 28 33) [.c 4 (some 3), .t 5] 2 := ⟨Tryd.f13, Tryd.f13.body.getD .skip, Tryd.func13, by kernel_rfl, by kernel_rfl, by kernel_rfl, by kernel_rfl, by rw [Tryd.ntmps13]; decide⟩
theorem isx49 : IsX Tryd.prog 49 (c_det_maker_all 63 34) [.c 4 (some 3)] 2 := ⟨Tryd.f49, Tryd.f49.body.getD .skip, Tryd.func49, by kernel_rfl, by kernel_rfl, by kernel_rfl, by kernel_rfl, by rw [Tryd.ntmps49]; decide⟩
theorem isx63 : IsX Tryd.prog 63 (c_det_maker_number 70 62) [.t 4] 2 := ⟨Tryd.f63, Tryd.f63.body.getD .skip, Tryd.func63, by kernel_rfl, by kernel_rfl, by kernel_rfl, by kernel_rfl, by rw [Tryd.ntmps63]; decide⟩
theorem m1_28 : m1Of Tryd.prog 28 = some (m1Rec 47 48 50 49) := by kernel_rfl
theorem rec48 : recAC Tryd.prog 48 = some (5, 2, c_m11_r 62, 16) := by kernel_rfl
theorem al70 : AllocIs Tryd.prog 70 95 := by unfold AllocIs; kernel_rfl
theorem byClone : ByC Tryd.prog 82 (c_cloneOv 1 8 (.v (.int .i64 0))) [.t 2] 1 := Clone_by hmix is82
end Go.Proofs.YtpinfihfbjkijaaDoor

