import Derived.Test.YtpinfihfbjkijaaDoorRfCat
import Derived.Test.YtpinfihfbjkijaaDoorRfNew
/- Own work: slices.Concat, of closed elements. -/
set_option linter.unusedVariables false
namespace Go.Rf
theorem Concat_pure {P : Program} (hm : P.follows .mixedOrders = true) {f fg : FuncId} {es by_ : Nat} {z : AV} (hg : HGrow P fg es z) (hb : by_ ≤ 1000) (h : Is P f (c_Concat es by_ fg) [2] 1) {X : Type} {enc : X → AV} (hcl : ∀ x, Closed (enc x)) (hce : ∀ x, (enc x).cells.length = es)
    (L : List (Bool × List X)) (hL : L.length ≤ 1000) (ht : (L.map fun p => p.2.length).sum ≤ 1000000) : PureC P f [.sl true (L.map fun p => .sl p.1 (p.2.map enc))] (.sl false ((L.flatMap (·.2)).map enc)) := by
  have e : AV.sl true (L.map fun p => AV.sl p.1 (p.2.map enc)) = catA (L.map fun p => (p.1, p.2.map enc)) := by simp [catA]
  rw [e]
  refine .of_callR (Concat_callR hm hg hb h (fun p hp x hx => ?_) (by simpa using hL) (by simpa [lenT, Function.comp_def] using ht) (fun v S' ho => ?_))
  · obtain ⟨q, hq, rfl⟩ := List.mem_map.mp hp
    obtain ⟨y, _, rfl⟩ := List.mem_map.mp hx
    exact hce y
  · obtain ⟨_, _, hv, _⟩ := ho
    have e2 : (L.map fun p => (p.1, p.2.map enc)).flatMap (·.2) = (L.flatMap (·.2)).map enc := by
      rw [List.flatMap_map, List.map_flatMap]
    rw [e2] at hv
    exact hv.fz hcl
end Go.Rf

