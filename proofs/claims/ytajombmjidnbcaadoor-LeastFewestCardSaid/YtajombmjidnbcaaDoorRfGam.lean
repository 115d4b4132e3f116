import Derived.Test.YtajombmjidnbcaaDoorRfIn
import Derived.Lib.LaidTab
import Derived.Lib.ItoaNum
/- Own work: the library's tables, out of what a row lists. -/
set_option linter.unusedVariables false
namespace Go.Rf
open Go.RowKit
theorem gam_of {P : Program} {W : World} (h : Lib.TabIs P W "internal/strconv.uint64pow10" .u64 Lib.pow10Tab) : Gam P (E0 W).H := by
  intro t ht g hg
  simp only [gtabs, List.mem_singleton] at ht
  subst ht
  simp only at hg ⊢
  unfold Lib.TabIs World.var? at h
  rw [hg] at h
  simp only [Option.bind_some] at h
  simp only [E0]
  split at h
  · rename_i cs el fz hw
    rw [hw]
    simp only
    rw [h]
    rfl
  · cases h
/-- .. and back: the table lies in every world in which H does. -/
theorem gam_tab {P : Program} {H : Nat → Option (Array Value)} (hG : Gam P H) {w : World} (hH : HOk H w) {g : Nat} (hg : P.globalNamed "internal/strconv.uint64pow10" = some g) : Lib.TabIs P w "internal/strconv.uint64pow10" .u64 Lib.pow10Tab := by
  have h := hG ("internal/strconv.uint64pow10", ((List.range 20).map fun k => Value.int .u64 ((10 : Int) ^ k)).toArray) (by simp [gtabs]) g hg
  obtain ⟨el, fz, hw⟩ := hH g _ h
  unfold Lib.TabIs World.var?
  rw [hg]
  simp only [Option.bind_some, hw]
  rfl
theorem laidVars_mem {P : Program} {w : World} {n : String} {d : DataW Unit} : ∀ {laid : List (String × DataW Unit)} {ps : List MemPlace}, DataW.LaidVars P w laid ps → (n, d) ∈ laid →
    ∃ g t cs fuel p, P.globalNamed n = some g ∧ (P.globals[g]?).map (·.type) = some t ∧ w.var? P n = some cs ∧ DataW.trod (fun _ => ()) P w 0 (fun _ => true) false fuel t cs.toList = some (d, p)
  | [], ps, _, h => by simp at h
  | (n', d') :: r, ps, hl, h => by
    obtain ⟨g, t, cs, fuel, p, q, h1, h2, h3, h4, h5, _⟩ := hl
    rcases List.mem_cons.mp h with e | h
    · cases e; exact ⟨g, t, cs, fuel, p, h1, h2, h3, h4⟩
    · exact laidVars_mem h5 h
theorem gam_laid {P : Program} {W : World} {laid : List (String × DataW Unit)} (h : laidMetH P laid W) (hn : (laid.filter fun x => x.2.handleName?.isSome) = []) (hm : ("internal/strconv.uint64pow10", Lib.tabData .u64 Lib.pow10Tab) ∈ laid)
    {g : Nat} {t e : TypeId} {n : Nat} (hg : P.globalNamed "internal/strconv.uint64pow10" = some g) (hty : (P.globals[g]?).map (·.type) = some t) (ht : P.underlying t = some (.array n e)) (he : P.underlying e = some (.int .u64)) (hce : P.cellsOf e = 1) (hct : P.cellsOf t = n) : Gam P (E0 W).H := by
  unfold laidMetH at h
  rw [hn] at h
  simp only at h
  obtain ⟨ps, h1, _⟩ := h
  obtain ⟨g', t', cs, fuel, p, hg', ht', hvar, hd⟩ := laidVars_mem h1 hm
  rw [hg] at hg'; cases hg'
  rw [hty] at ht'; cases ht'
  refine gam_of ?_
  unfold Lib.TabIs
  rw [hvar, ← Lib.cells_of_tab ht he hce hct hd]
end Go.Rf

