import Derived.Test.YtajombmjidnbcaaDoorRfBld17
import Derived.Test.YtajombmjidnbcaaDoorRfTx2
import Derived.Test.YtajombmjidnbcaaDoorRfGam
import Derived.Lib.AppendIntMem
/- Own work: the library's contracts (strings.Builder, Itoa) at this program. -/
set_option linter.unusedVariables false
namespace Go.Proofs
open Go.Shelf Go.Rf
theorem callable54 : Callable Tryd.prog 54 := callable_of Tryd.func54 (c := Tryd.f54.body.getD .skip) (by kernel_rfl) (by kernel_rfl)
theorem callable55 : Callable Tryd.prog 55 := callable_of Tryd.func55 (c := Tryd.f55.body.getD .skip) (by kernel_rfl) (by kernel_rfl)
theorem callable56 : Callable Tryd.prog 56 := callable_of Tryd.func56 (c := Tryd.f56.body.getD .skip) (by kernel_rfl) (by kernel_rfl)
theorem callable57 : Callable Tryd.prog 57 := callable_of Tryd.func57 (c := Tryd.f57.body.getD .skip) (by kernel_rfl) (by kernel_rfl)
theorem hBld : BldK Tryd.prog 54 56 57 71 5 :=
  ⟨callable54, callable56, callable57,
    fun B b bs s w h hl hB => (Any.Builder_WriteString_k Tryd.layn166 Tryd.bldX B b bs s w h hl hB).mono fun e w' ⟨h1, h2, h3, _⟩ => ⟨h1, .inr h2, h3⟩,
    fun B b bs c w h hl hB => (Any.Builder_WriteByte_k Tryd.layn167 Tryd.bldX B b bs c w h hl hB).mono fun e w' ⟨h1, h2, h3, _⟩ => ⟨h1, .inr h2, h3⟩,
    fun B b l w h hB => (Any.Builder_String_any_k Tryd.layn169 Tryd.bldX B b l w h hB).mono fun e w' ⟨h1, _, h3, _⟩ => ⟨h1, h3⟩⟩
/-- Itoa of all up to 2^62. -/
theorem hItoa : ItK Tryd.prog 55 (fun n => 0 ≤ n ∧ n < 10000) := by
  refine ⟨callable55, fun H n w hG hH hn => ?_⟩
  refine (Any.strconv_Itoa Tryd.laysM171 n (by omega) (by omega) w (gam_tab hG hH (g := 0) (by kernel_rfl))).mono ?_
  rintro e w' ⟨h, k, os, rfl⟩
  exact ⟨h, Lib.below_grow _ w (Nat.le_refl _) k os⟩
end Go.Proofs

