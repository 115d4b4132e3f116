import Derived.Test.YtpinfihfbjkijaaDoorRfShelf15
import Derived.Test.YtpinfihfbjkijaaDoorRfBld15
import Derived.Test.YtpinfihfbjkijaaDoorRfTx2
import Derived.Test.YtpinfihfbjkijaaDoorRfN1
/- Own work: the library's contracts of slices.Sort and slices.Compact at this program. -/
set_option linter.unusedVariables false
namespace Go.Proofs
open Go.Shelf Go.Rf Go.Sort
theorem callable52 : Callable Tryd.prog 52 := callable_of Tryd.func52 (c := Tryd.f52.body.getD .skip) (by kernel_rfl) (by kernel_rfl)
theorem callable53 : Callable Tryd.prog 53 := callable_of Tryd.func53 (c := Tryd.f53.body.getD .skip) (by kernel_rfl) (by kernel_rfl)
theorem hSort : HSort Tryd.prog 52 := by
  intro S id off ys l K hg hd hne hl hk
  have hlen : (l.mergeSort fun x y => decide (x ≤ y)).length = l.length := List.length_mergeSort _
  refine CallR.rewrite callable52 hg hd hne hlen (l.mergeSort fun x y => decide (x ≤ y)).length (Nat.le_refl _) (fun _ _ _ => .tuple #[]) (.tup []) (.inl ⟨rfl, fun _ _ _ => rfl⟩) (fun b o cap w hH hb hcap => ?_) ?_
  · exact Any.slices_Sort_int Tryd.laysSort b o cap l w hH hb (by omega)
  · rw [List.take_length]; exact hk
theorem hComp : HComp Tryd.prog 53 := by
  intro S id off ys l K hg hd hne hl hk
  have hle : (Lib.compact l).length ≤ l.length := Lib.compact_length_le l
  have hpos : 0 < (Lib.compact l).length := by
    obtain ⟨x, hx⟩ := List.exists_mem_of_ne_nil _ hne
    exact List.length_pos_of_mem (mem_cmp.mpr hx)
  refine CallR.rewrite callable53 hg hd hne (l' := Lib.compact l ++ List.replicate (l.length - (Lib.compact l).length) 0) (by simp; omega) (Lib.compact l).length (by simp) (fun b o cap => .slice (some ⟨b, o, none⟩) (Lib.compact l).length cap) (.own id off (Lib.compact l).length) (.inr ⟨rfl, hpos, fun _ _ _ => rfl⟩) (fun b o cap w hH hb hcap => ?_) ?_
  · refine (Any.slices_Compact_int Tryd.laysCompact b o cap l w hH (by omega) hcap).mono ?_
    rintro e w' ⟨rfl, q, rfl⟩
    exact ⟨rfl, q, #[], (grow_empty _).symm⟩
  · have : List.take (Lib.compact l).length (Lib.compact l ++ List.replicate (l.length - (Lib.compact l).length) 0) = Lib.compact l := by simp
    rw [this]; exact hk
theorem callable83 : Callable Tryd.prog 83 := callable_of Tryd.func83 (c := Tryd.f83.body.getD .skip) (by kernel_rfl) (by kernel_rfl)
theorem callable84 : Callable Tryd.prog 84 := callable_of Tryd.func84 (c := Tryd.f84.body.getD .skip) (by kernel_rfl) (by kernel_rfl)
theorem callable85 : Callable Tryd.prog 85 := callable_of Tryd.func85 (c := Tryd.f85.body.getD .skip) (by kernel_rfl) (by kernel_rfl)
theorem callable86 : Callable Tryd.prog 86 := callable_of Tryd.func86 (c := Tryd.f86.body.getD .skip) (by kernel_rfl) (by kernel_rfl)
theorem hBld : BldK Tryd.prog 83 85 86 95 5 :=
  ⟨callable83, callable85, callable86,
    fun B b bs s w h hl hB => (Any.Builder_WriteString_k Tryd.layn166 Tryd.bldX B b bs s w h hl hB).mono fun e w' ⟨h1, h2, h3, _⟩ => ⟨h1, .inr h2, h3⟩,
    fun B b bs c w h hl hB => (Any.Builder_WriteByte_k Tryd.layn167 Tryd.bldX B b bs c w h hl hB).mono fun e w' ⟨h1, h2, h3, _⟩ => ⟨h1, .inr h2, h3⟩,
    fun B b l w h hB => (Any.Builder_String_any_k Tryd.layn169 Tryd.bldX B b l w h hB).mono fun e w' ⟨h1, _, h3, _⟩ => ⟨h1, h3⟩⟩
theorem hItoa : ItK Tryd.prog 84 (fun n => 0 ≤ n ∧ n < 100) := by
  refine ⟨callable84, fun H n w _ _ hn => ?_⟩
  obtain ⟨k, rfl⟩ := Int.eq_ofNat_of_zero_le hn.1
  have := Any.strconv_Itoa_small Tryd.layn171 k (by omega) w
  rw [Lib.itoa_nonneg]
  refine this.mono ?_
  rintro e w' ⟨h, rfl⟩
  exact ⟨h, .refl _ _⟩
end Go.Proofs

