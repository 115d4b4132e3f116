import Derived.Test.YtidkjfaeolfcaaaGreatRfCell
/- Own work: a call in a region whose order is drawn, all plain data. -/
set_option linter.unusedVariables false
namespace Go.Rf
theorem CallD.kl {P : Program} {f : FuncId} {args : List AV} {r : AV} {S : St} (h : PureC P f args r) (hc : ∀ x ∈ args, Closed x) (hr : Closed r) : CallD P f args S [] r :=
  ⟨args, h, rfl, fun j h1 _ => .closed _ (hc _ (List.getElem_mem h1)), .inr (.inl ⟨rfl, hr⟩)⟩
end Go.Rf

