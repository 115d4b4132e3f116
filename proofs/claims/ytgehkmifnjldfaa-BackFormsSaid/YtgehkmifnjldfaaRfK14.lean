import Derived.Test.YtgehkmifnjldfaaRfShelf14
import Derived.Test.YtgehkmifnjldfaaRfN1
/- Own work: the library's contracts of slices.Sort and slices.Compact at this program. -/
set_option linter.unusedVariables false
namespace Go.Proofs
open Go.Shelf Go.Rf Go.Sort
theorem callable54 : Callable Try.prog 54 := callable_of Try.func54 (c := Try.f54.body.getD .skip) (by kernel_rfl) (by kernel_rfl)
theorem callable55 : Callable Try.prog 55 := callable_of Try.func55 (c := Try.f55.body.getD .skip) (by kernel_rfl) (by kernel_rfl)
theorem hSort : HSort Try.prog 54 := by
  intro S id off ys l K hg hd hne hl hk
  have hlen : (l.mergeSort fun x y => decide (x ≤ y)).length = l.length := List.length_mergeSort _
  refine CallR.rewrite callable54 hg hd hne hlen (l.mergeSort fun x y => decide (x ≤ y)).length (Nat.le_refl _) (fun _ _ _ => .tuple #[]) (.tup []) (.inl ⟨rfl, fun _ _ _ => rfl⟩) (fun b o cap w hH hb hcap => ?_) ?_
  · exact Any.slices_Sort_int Try.laysSort b o cap l w hH hb (by omega)
  · rw [List.take_length]; exact hk
theorem hComp : HComp Try.prog 55 := by
  intro S id off ys l K hg hd hne hl hk
  have hle : (Lib.compact l).length ≤ l.length := Lib.compact_length_le l
  have hpos : 0 < (Lib.compact l).length := by
    obtain ⟨x, hx⟩ := List.exists_mem_of_ne_nil _ hne
    exact List.length_pos_of_mem (mem_cmp.mpr hx)
  refine CallR.rewrite callable55 hg hd hne (l' := Lib.compact l ++ List.replicate (l.length - (Lib.compact l).length) 0) (by simp; omega) (Lib.compact l).length (by simp) (fun b o cap => .slice (some ⟨b, o, none⟩) (Lib.compact l).length cap) (.own id off (Lib.compact l).length) (.inr ⟨rfl, hpos, fun _ _ _ => rfl⟩) (fun b o cap w hH hb hcap => ?_) ?_
  · refine (Any.slices_Compact_int Try.laysCompact b o cap l w hH (by omega) hcap).mono ?_
    rintro e w' ⟨rfl, q, rfl⟩
    exact ⟨rfl, q, #[], (grow_empty _).symm⟩
  · have : List.take (Lib.compact l).length (Lib.compact l ++ List.replicate (l.length - (Lib.compact l).length) 0) = Lib.compact l := by simp
    rw [this]; exact hk
end Go.Proofs

