import Derived.Test.YtnlhbognechhcaaRfShelf13
import Derived.Test.YtnlhbognechhcaaRfN1
/- Own work: the library's contracts of slices.Sort and slices.Compact at this program. -/
set_option linter.unusedVariables false
namespace Go.Proofs
open Go.Shelf Go.Rf Go.Sort
theorem callable43 : Callable Try.prog 43 := callable_of Try.func43 (c := Try.f43.body.getD .skip) (by kernel_rfl) (by kernel_rfl)
theorem callable44 : Callable Try.prog 44 := callable_of Try.func44 (c := Try.f44.body.getD .skip) (by kernel_rfl) (by kernel_rfl)
theorem hSort : HSort Try.prog 43 := by
  intro S id off ys l K hg hd hne hl hk
  have hlen : (l.mergeSort fun x y => decide (x ≤ y)).length = l.length := List.length_mergeSort _
  refine CallR.rewrite callable43 hg hd hne hlen (l.mergeSort fun x y => decide (x ≤ y)).length (Nat.le_refl _) (fun _ _ _ => .tuple #[]) (.tup []) (.inl ⟨rfl, fun _ _ _ => rfl⟩) (fun b o cap w hH hb hcap => ?_) ?_
  · exact Any.slices_Sort_int Try.laysSort b o cap l w hH hb (by omega)
  · rw [List.take_length]; exact hk
theorem hComp : HComp Try.prog 44 := by
  intro S id off ys l K hg hd hne hl hk
  have hle : (Lib.compact l).length ≤ l.length := Lib.compact_length_le l
  have hpos : 0 < (Lib.compact l).length := by
    obtain ⟨x, hx⟩ := List.exists_mem_of_ne_nil _ hne
    exact List.length_pos_of_mem (mem_cmp.mpr hx)
  refine CallR.rewrite callable44 hg hd hne (l' := Lib.compact l ++ List.replicate (l.length - (Lib.compact l).length) 0) (by simp; omega) (Lib.compact l).length (by simp) (fun b o cap => .slice (some ⟨b, o, none⟩) (Lib.compact l).length cap) (.own id off (Lib.compact l).length) (.inr ⟨rfl, hpos, fun _ _ _ => rfl⟩) (fun b o cap w hH hb hcap => ?_) ?_
  · refine (Any.slices_Compact_int Try.laysCompact b o cap l w hH (by omega) hcap).mono ?_
    rintro e w' ⟨rfl, q, rfl⟩
    exact ⟨rfl, q, #[], (grow_empty _).symm⟩
  · have : List.take (Lib.compact l).length (Lib.compact l ++ List.replicate (l.length - (Lib.compact l).length) 0) = Lib.compact l := by simp
    rw [this]; exact hk
end Go.Proofs

