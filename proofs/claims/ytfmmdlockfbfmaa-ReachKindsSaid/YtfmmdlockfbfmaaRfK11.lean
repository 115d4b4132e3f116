import Derived.Test.YtfmmdlockfbfmaaRfShelf11
import Derived.Test.YtfmmdlockfbfmaaRfN1
/- Own work: the library's contract of slices.Sort at this program. -/
set_option linter.unusedVariables false
namespace Go.Proofs
open Go.Shelf Go.Rf Go.Sort
theorem callable21 : Callable Try.prog 21 := callable_of Try.func21 (c := Try.f21.body.getD .skip) (by kernel_rfl) (by kernel_rfl)
theorem hSort : HSort Try.prog 21 := by
  intro S id off ys l K hg hd hne hl hk
  have hlen : (l.mergeSort fun x y => decide (x ≤ y)).length = l.length := List.length_mergeSort _
  refine CallR.rewrite callable21 hg hd hne hlen (l.mergeSort fun x y => decide (x ≤ y)).length (Nat.le_refl _) (fun _ _ _ => .tuple #[]) (.tup []) (.inl ⟨rfl, fun _ _ _ => rfl⟩) (fun b o cap w hH hb hcap => ?_) ?_
  · exact Any.slices_Sort_int Try.laysSort b o cap l w hH hb (by omega)
  · rw [List.take_length]; exact hk
end Go.Proofs

