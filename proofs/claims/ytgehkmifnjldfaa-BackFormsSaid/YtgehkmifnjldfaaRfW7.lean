import Derived.Recover
import Derived.Test.YtgehkmifnjldfaaRfWk
import Derived.Test.YtgehkmifnjldfaaRfE6
import Derived.Test.YtgehkmifnjldfaaRfN1
import Derived.Test.YtgehkmifnjldfaaRfPan
import Derived.Test.YtgehkmifnjldfaaRfNb
import Derived.Test.YtgehkmifnjldfaaRfE3
import Derived.Test.YtgehkmifnjldfaaRfNew
import Derived.Test.YtgehkmifnjldfaaRfN4
import Derived.Test.YtgehkmifnjldfaaRfL10
import Derived.Test.YtgehkmifnjldfaaRfCell
import Derived.Test.YtgehkmifnjldfaaRfRun
/- Own work: a function that lays cells, looks whether to go on, defers a closure that recovers, and goes on. -/
set_option linter.unusedVariables false
set_option linter.unusedSimpArgs false
namespace Go.Rf
open Go.RowKit

structure M1 where
  a0 : AC
  ag : AC
  d : Nat
  g : FuncId
  x : Nat
  y : Nat
  ar : AC
  nt : Nat
  rs : List RV
end Go.Rf


/- Own work: det.make1 and the closures that it is given. -/
set_option linter.unusedVariables false
set_option linter.unusedSimpArgs false
namespace Go.Rf
open Go.RowKit
def c_det_make1_2 : AC :=
  (.seq (.reg none [
   ⟨(some 6), .mv (.c (.sl true [])), none, none⟩])
  (.seq (.reg none [
   ⟨(some 7), .load none (.t 2), none, none⟩,
   ⟨(some 8), .load none (.t 3), none, none⟩,
   ⟨(some 9), .mv (.t 0), none, none⟩,
   ⟨(some 10), .mv (.t 1), none, none⟩,
   ⟨(some 11), .mv (.c .junk), none, (some ((.t 7), [(.t 8), (.t 9), (.t 10)]))⟩,
   ⟨(some 6), .mv (.t 11), none, none⟩])
  .ret))
def c_det_Tails_1 (f_det_maker_step f_slices_Concat_Sint_int_ : FuncId) : AC :=
  (.seq (.reg none [
   ⟨(some 6), .mv (.c (.sl true [])), none, none⟩])
  (.seq (.reg none [
   ⟨(some 7), .bslice 1 1 (.v (.int .i64 0)) [(0, (.c (.v (.int .i64 0))))], none, none⟩,
   ⟨(some 8), .mv (.t 0), none, none⟩,
   ⟨(some 9), .mv (.t 1), none, none⟩,
   ⟨(some 10), .mv (.t 2), none, none⟩,
   ⟨(some 11), .mv (.c .junk), none, (some ((.c (.clo f_det_maker_step [] [])), [(.t 8), (.t 9), (.t 10)]))⟩,
   ⟨(some 12), .bslice 1 2 (.sl true []) [(0, (.t 7)), (1, (.t 11))], none, none⟩,
   ⟨(some 13), .mv (.c .junk), none, (some ((.c (.clo f_slices_Concat_Sint_int_ [] [])), [(.t 12)]))⟩,
   ⟨(some 6), .mv (.t 13), none, none⟩])
  .ret))
def c_det_Heads_1 (f_det_maker_ends f_det_maker_step : FuncId) : AC :=
  (.seq (.reg none [
   ⟨(some 6), .mv (.c (.sl true [])), none, none⟩])
  (.seq (.seq (.reg none [
   ⟨(some 7), .mv (.t 0), none, none⟩,
   ⟨(some 8), .mv (.t 1), none, none⟩,
   ⟨(some 9), .mv (.c .junk), none, (some ((.c (.clo f_det_maker_ends [] [])), [(.t 7), (.t 8)]))⟩])
  (.cond (.t 9) (.seq (.reg none [
    ⟨(some 10), .mv (.t 1), none, none⟩,
    ⟨(some 6), .mv (.t 10), none, none⟩])
   .ret) .skip))
  (.seq (.reg none [
   ⟨(some 11), .mv (.t 0), none, none⟩,
   ⟨(some 12), .mv (.t 1), none, none⟩,
   ⟨(some 13), .mv (.t 2), none, none⟩,
   ⟨(some 14), .mv (.c .junk), none, (some ((.c (.clo f_det_maker_step [] [])), [(.t 11), (.t 12), (.t 13)]))⟩,
   ⟨(some 6), .mv (.t 14), none, none⟩])
  .ret)))
/-- What is asked of what stands behind a set. -/
def HB (P : Program) (fb : FuncId) (n : Net) (kd : Kd) : Prop := ∀ (S : St) (id km : Nat) (most : Int) (ss : List (List Int)) (v : AV) (set : List Int) (s : Int) (K : AV → St → Prop), MkS S id km n most ss v → Val n set →
  (∀ m, S.n ≤ m → K (encIs (bhS kd n set s)) ⟨m, S.g⟩) → CallR P fb [.ptr id 0 0, encIs set, encI s] S K
def HStp (P : Program) (f : FuncId) (n : Net) : Prop := ∀ set s, Val n set → PureN P f [pNet n, encIs set, encI s] (encIs (stepN n set s))
def HEnds (P : Program) (f : FuncId) (n : Net) : Prop := ∀ set, Val n set → PureC P f [pNet n, encIs set] (encB (endsB n set))
theorem MkS.pre {S : St} {id km : Nat} {n : Net} {most : Int} {ss : List (List Int)} {v : AV} (M : MkS S id km n most ss v) {g : Nat → Option Blk} (hg : g id = S.g id) : Fz g (.ptr id 0 0) (pNet n) :=
  .pre id 7 [encI n.signs, encIss n.by_, encIss n.follow, encIs n.last] [encI most, .mp km, v] (by rw [hg]; exact M.g) (by
    intro y hy
    simp only [List.mem_cons, List.not_mem_nil, or_false] at hy
    rcases hy with rfl | rfl | rfl | rfl
    · exact Z2r _
    · exact Z2t _
    · exact Z2t _
    · exact Z2s _)
theorem HB.whole {P : Program} {f : FuncId} {n : Net} (h : HStp P f n) : HB P f n .whole := by
  intro S id km most ss v set s K M hv hk
  have hz : FzL S.g [.ptr id 0 0, encIs set, encI s] [pNet n, encIs set, encI s] := FzL.cons (M.pre rfl) (FzL.cons (.closed _ (Z2s _)) (FzL.cons (.closed _ (Z2r _)) FzL.nil))
  exact CallR.fresh_gen (h set s hv) S.g (fun _ _ e => e) hz.1 hz.2 (Z2s _) (hk S.n (Nat.le_refl _))
theorem HB.tails {P : Program} (hm : P.follows .mixedOrders = true) {f fs fc : FuncId} {n : Net} (R : RightN n) (h : HStp P fs n) (hf : Is P f (c_det_Tails_1 fs fc) [6] 3)
    (hc : ∀ l : List Int, l.length ≤ 1000 → PureC P fc [.sl true [.sl true [encI 0], encIs l]] (encIs (0 :: l))) : HB P f n .tails := by
  intro S id km most ss v set s K M hv hk
  have hb := HB.whole h
  refine hf.callR hm rfl ?_
  simp [Z0h, Z0c, Z0d, Z09, Z0a, Z0i, Z0b, Z0f, Z0g, Z2z, Z2y, Z07, Z08, Z06, Z01, Z02, Z00, Z04, Z05, Z03, Z1z, Z1y, Z46, Z48, Z47, Z45, Z1n, Z1o, Z1m, Z3n, Z3k, Z3m, Z3l, Z3o, Z1l, Z29, Z32, Z3x, Z1i, Z1j, Z1k, Z3v, Z3w, Z1g, Z28, Z1h, Z3i, Z3f, Z3h, Z3g, Z3j, Z41, Z40, Z0t, Z0u, Z0v, Z0s, Z1f, Z4c, Z4b, Z4d, Z4a, Z49, ex, Z43, Z42, ev_t, ev_c, Z27, Z26, Z4e, Z4f, Z2m, Z2l, Z2f, Z2j, Z2k, Z2g, Z2h, Z2i, putc, exBslice, lfill, exField, exIdxV, exIdxP, exBox, exAlloc, exLoad, exStore, exFieldA, exIdxA, exLen, exPick, exUn, exBeq, exMM, exSeq, seqGo, exExt, binV, intOp, subc, AV.solid, S0, encI, encB, c_det_Tails_1]
  refine hb _ id km most ss v set s _ ⟨M.g, M.m, M.vec, M.ne, M.hv, Nat.lt_of_lt_of_le M.lid (by show S.n ≤ S.n + 1 + 8; omega), Nat.lt_of_lt_of_le M.lkm (by show S.n ≤ S.n + 1 + 8; omega), fun i hi => Nat.lt_of_lt_of_le (M.lv i hi) (by show S.n ≤ S.n + 1 + 8; omega)⟩ hv fun m hm2 => ?_
  have h1 : (encIs (bhS .whole n set s)).cells = [encIs (bhS .whole n set s)] := rfl
  have h2 : (encIs (bhS .whole n set s)).solid = true := rfl
  simp only [AV.solid] at h2
  simp [Z0h, Z0c, Z0d, Z09, Z0a, Z0i, Z0b, Z0f, Z0g, Z2z, Z2y, Z07, Z08, Z06, Z01, Z02, Z00, Z04, Z05, Z03, Z1z, Z1y, Z46, Z48, Z47, Z45, Z1n, Z1o, Z1m, Z3n, Z3k, Z3m, Z3l, Z3o, Z1l, Z29, Z32, Z3x, Z1i, Z1j, Z1k, Z3v, Z3w, Z1g, Z28, Z1h, Z3i, Z3f, Z3h, Z3g, Z3j, Z41, Z40, Z0t, Z0u, Z0v, Z0s, Z1f, Z4c, Z4b, Z4d, Z4a, Z49, ex, Z43, Z42, ev_t, ev_c, Z27, Z26, Z4e, Z4f, Z2m, Z2l, Z2f, Z2j, Z2k, Z2g, Z2h, Z2i, putc, exBslice, lfill, exField, exIdxV, exIdxP, exBox, exAlloc, exLoad, exStore, exFieldA, exIdxA, exLen, exPick, exUn, exBeq, exMM, exSeq, seqGo, exExt, binV, intOp, subc, AV.solid, S0, encI, encB, h1, h2]
  refine CallR.pure (hc _ ?_) (cl_cons (.sl _ _ (by
    intro y hy
    simp only [List.mem_cons, List.not_mem_nil, or_false] at hy
    rcases hy with rfl | rfl
    · exact .sl _ _ (by intro y hy; simp only [List.mem_cons, List.not_mem_nil, or_false] at hy; subst hy; exact Z2r _)
    · exact Z2s _)) cl_nil) (Z2s _) ?_
  · have := (step_val R set s).2
    show (stepN n set s).length ≤ 1000
    omega
  · simp [Z0h, Z0c, Z0d, Z09, Z0a, Z0i, Z0b, Z0f, Z0g, Z2z, Z2y, Z07, Z08, Z06, Z01, Z02, Z00, Z04, Z05, Z03, Z1z, Z1y, Z46, Z48, Z47, Z45, Z1n, Z1o, Z1m, Z3n, Z3k, Z3m, Z3l, Z3o, Z1l, Z29, Z32, Z3x, Z1i, Z1j, Z1k, Z3v, Z3w, Z1g, Z28, Z1h, Z3i, Z3f, Z3h, Z3g, Z3j, Z41, Z40, Z0t, Z0u, Z0v, Z0s, Z1f, Z4c, Z4b, Z4d, Z4a, Z49, ex, Z43, Z42, ev_t, ev_c, Z27, Z26, Z4e, Z4f, Z2m, Z2l, Z2f, Z2j, Z2k, Z2g, Z2h, Z2i, putc, exBslice, lfill, exField, exIdxV, exIdxP, exBox, exAlloc, exLoad, exStore, exFieldA, exIdxA, exLen, exPick, exUn, exBeq, exMM, exSeq, seqGo, exExt, binV, intOp, subc, AV.solid, S0, encI, encB]
    exact hk _ (by simp only at hm2; omega)
theorem HB.heads {P : Program} (hm : P.follows .mixedOrders = true) {f fs fe : FuncId} {n : Net} (h : HStp P fs n) (he : HEnds P fe n) (hf : Is P f (c_det_Heads_1 fe fs) [6] 3) : HB P f n .heads := by
  intro S id km most ss v set s K M hv hk
  have hb := HB.whole h
  have hMm : ∀ m, S.n ≤ m → MkS ⟨m, S.g⟩ id km n most ss v := fun m hm2 => ⟨M.g, M.m, M.vec, M.ne, M.hv, Nat.lt_of_lt_of_le M.lid hm2, Nat.lt_of_lt_of_le M.lkm hm2, fun i hi => Nat.lt_of_lt_of_le (M.lv i hi) hm2⟩
  refine hf.callR hm rfl ?_
  simp [Z0h, Z0c, Z0d, Z09, Z0a, Z0i, Z0b, Z0f, Z0g, Z2z, Z2y, Z07, Z08, Z06, Z01, Z02, Z00, Z04, Z05, Z03, Z1z, Z1y, Z46, Z48, Z47, Z45, Z1n, Z1o, Z1m, Z3n, Z3k, Z3m, Z3l, Z3o, Z1l, Z29, Z32, Z3x, Z1i, Z1j, Z1k, Z3v, Z3w, Z1g, Z28, Z1h, Z3i, Z3f, Z3h, Z3g, Z3j, Z41, Z40, Z0t, Z0u, Z0v, Z0s, Z1f, Z4c, Z4b, Z4d, Z4a, Z49, ex, Z43, Z42, ev_t, ev_c, Z27, Z26, Z4e, Z4f, Z2m, Z2l, Z2f, Z2j, Z2k, Z2g, Z2h, Z2i, putc, exBslice, lfill, exField, exIdxV, exIdxP, exBox, exAlloc, exLoad, exStore, exFieldA, exIdxA, exLen, exPick, exUn, exBeq, exMM, exSeq, seqGo, exExt, binV, intOp, subc, AV.solid, S0, encI, encB, c_det_Heads_1]
  refine CallR.looks (S := ⟨S.n + 1 + 3, S.g⟩) (he set hv) (FzL.cons (M.pre rfl) (FzL.cons (.closed _ (Z2s _)) FzL.nil)) (plain_B _) ?_
  cases hq : endsB n set with
  | true =>
    simp [Z0h, Z0c, Z0d, Z09, Z0a, Z0i, Z0b, Z0f, Z0g, Z2z, Z2y, Z07, Z08, Z06, Z01, Z02, Z00, Z04, Z05, Z03, Z1z, Z1y, Z46, Z48, Z47, Z45, Z1n, Z1o, Z1m, Z3n, Z3k, Z3m, Z3l, Z3o, Z1l, Z29, Z32, Z3x, Z1i, Z1j, Z1k, Z3v, Z3w, Z1g, Z28, Z1h, Z3i, Z3f, Z3h, Z3g, Z3j, Z41, Z40, Z0t, Z0u, Z0v, Z0s, Z1f, Z4c, Z4b, Z4d, Z4a, Z49, ex, Z43, Z42, ev_t, ev_c, Z27, Z26, Z4e, Z4f, Z2m, Z2l, Z2f, Z2j, Z2k, Z2g, Z2h, Z2i, putc, exBslice, lfill, exField, exIdxV, exIdxP, exBox, exAlloc, exLoad, exStore, exFieldA, exIdxA, exLen, exPick, exUn, exBeq, exMM, exSeq, seqGo, exExt, binV, intOp, subc, AV.solid, S0, encI, encB]
    have := hk (S.n + 1 + 3 + 2) (by omega)
    simp only [bhS, hq, if_true] at this
    exact this
  | false =>
    simp [Z0h, Z0c, Z0d, Z09, Z0a, Z0i, Z0b, Z0f, Z0g, Z2z, Z2y, Z07, Z08, Z06, Z01, Z02, Z00, Z04, Z05, Z03, Z1z, Z1y, Z46, Z48, Z47, Z45, Z1n, Z1o, Z1m, Z3n, Z3k, Z3m, Z3l, Z3o, Z1l, Z29, Z32, Z3x, Z1i, Z1j, Z1k, Z3v, Z3w, Z1g, Z28, Z1h, Z3i, Z3f, Z3h, Z3g, Z3j, Z41, Z40, Z0t, Z0u, Z0v, Z0s, Z1f, Z4c, Z4b, Z4d, Z4a, Z49, ex, Z43, Z42, ev_t, ev_c, Z27, Z26, Z4e, Z4f, Z2m, Z2l, Z2f, Z2j, Z2k, Z2g, Z2h, Z2i, putc, exBslice, lfill, exField, exIdxV, exIdxP, exBox, exAlloc, exLoad, exStore, exFieldA, exIdxA, exLen, exPick, exUn, exBeq, exMM, exSeq, seqGo, exExt, binV, intOp, subc, AV.solid, S0, encI, encB]
    refine hb _ id km most ss v set s _ (hMm _ (by omega)) hv fun m hm2 => ?_
    simp [Z0h, Z0c, Z0d, Z09, Z0a, Z0i, Z0b, Z0f, Z0g, Z2z, Z2y, Z07, Z08, Z06, Z01, Z02, Z00, Z04, Z05, Z03, Z1z, Z1y, Z46, Z48, Z47, Z45, Z1n, Z1o, Z1m, Z3n, Z3k, Z3m, Z3l, Z3o, Z1l, Z29, Z32, Z3x, Z1i, Z1j, Z1k, Z3v, Z3w, Z1g, Z28, Z1h, Z3i, Z3f, Z3h, Z3g, Z3j, Z41, Z40, Z0t, Z0u, Z0v, Z0s, Z1f, Z4c, Z4b, Z4d, Z4a, Z49, ex, Z43, Z42, ev_t, ev_c, Z27, Z26, Z4e, Z4f, Z2m, Z2l, Z2f, Z2j, Z2k, Z2g, Z2h, Z2i, putc, exBslice, lfill, exField, exIdxV, exIdxP, exBox, exAlloc, exLoad, exStore, exFieldA, exIdxA, exLen, exPick, exUn, exBeq, exMM, exSeq, seqGo, exExt, binV, intOp, subc, AV.solid, S0, encI, encB]
    have := hk m (by simp only at hm2; omega)
    simp only [bhS, hq, Bool.false_eq_true, if_false] at this
    exact this
/-- The closure over what stands behind a set. -/
theorem HB.clo {P : Program} (hm : P.follows .mixedOrders = true) {f fb : FuncId} {n : Net} {kd : Kd} (h : HB P fb n kd) (hf : Is P f c_det_make1_2 [6] 4) {S00 : St} {id km k5 k8 : Nat} {most : Int} (h5 : S00.g k5 = some (.arr 1 [.clo fb [] []])) (h8 : S00.g k8 = some (.arr 1 [.ptr id 0 0]))
    (l5 : k5 < S00.n) (l8 : k8 < S00.n) (n5 : k5 ≠ id ∧ k5 ≠ km) (n8 : k8 ≠ id ∧ k8 ≠ km) : HBeh P f [.ptr k5 0 0, .ptr k8 0 0] S00 id km n most kd := by
  intro S ss v set s K M hold hv hk
  have g5 : S.g k5 = some (.arr 1 [.clo fb [] []]) := (hold.2 k5 l5 n5.1 n5.2).trans h5
  have g8 : S.g k8 = some (.arr 1 [.ptr id 0 0]) := (hold.2 k8 l8 n8.1 n8.2).trans h8
  have hMm : ∀ m, S.n ≤ m → MkS ⟨m, S.g⟩ id km n most ss v := fun m hm2 => ⟨M.g, M.m, M.vec, M.ne, M.hv, Nat.lt_of_lt_of_le M.lid hm2, Nat.lt_of_lt_of_le M.lkm hm2, fun i hi => Nat.lt_of_lt_of_le (M.lv i hi) hm2⟩
  refine hf.callR hm rfl ?_
  simp [Z0h, Z0c, Z0d, Z09, Z0a, Z0i, Z0b, Z0f, Z0g, Z2z, Z2y, Z07, Z08, Z06, Z01, Z02, Z00, Z04, Z05, Z03, Z1z, Z1y, Z46, Z48, Z47, Z45, Z1n, Z1o, Z1m, Z3n, Z3k, Z3m, Z3l, Z3o, Z1l, Z29, Z32, Z3x, Z1i, Z1j, Z1k, Z3v, Z3w, Z1g, Z28, Z1h, Z3i, Z3f, Z3h, Z3g, Z3j, Z41, Z40, Z0t, Z0u, Z0v, Z0s, Z1f, Z4c, Z4b, Z4d, Z4a, Z49, ex, Z43, Z42, ev_t, ev_c, Z27, Z26, Z4e, Z4f, Z2m, Z2l, Z2f, Z2j, Z2k, Z2g, Z2h, Z2i, putc, exBslice, lfill, exField, exIdxV, exIdxP, exBox, exAlloc, exLoad, exStore, exFieldA, exIdxA, exLen, exPick, exUn, exBeq, exMM, exSeq, seqGo, exExt, binV, intOp, subc, AV.solid, S0, encI, encB, c_det_make1_2, g5, g8]
  refine h _ id km most ss v set s _ (hMm _ (by omega)) hv fun m hm2 => ?_
  simp [Z0h, Z0c, Z0d, Z09, Z0a, Z0i, Z0b, Z0f, Z0g, Z2z, Z2y, Z07, Z08, Z06, Z01, Z02, Z00, Z04, Z05, Z03, Z1z, Z1y, Z46, Z48, Z47, Z45, Z1n, Z1o, Z1m, Z3n, Z3k, Z3m, Z3l, Z3o, Z1l, Z29, Z32, Z3x, Z1i, Z1j, Z1k, Z3v, Z3w, Z1g, Z28, Z1h, Z3i, Z3f, Z3h, Z3g, Z3j, Z41, Z40, Z0t, Z0u, Z0v, Z0s, Z1f, Z4c, Z4b, Z4d, Z4a, Z49, ex, Z43, Z42, ev_t, ev_c, Z27, Z26, Z4e, Z4f, Z2m, Z2l, Z2f, Z2j, Z2k, Z2g, Z2h, Z2i, putc, exBslice, lfill, exField, exIdxV, exIdxP, exBox, exAlloc, exLoad, exStore, exFieldA, exIdxA, exLen, exPick, exUn, exBeq, exMM, exSeq, seqGo, exExt, binV, intOp, subc, AV.solid, S0, encI, encB]
  exact hk m (by simp only at hm2; omega)
end Go.Rf


/- Own work: det.Whole, det.Tails, det.Heads. -/
set_option linter.unusedVariables false
set_option linter.unusedSimpArgs false
namespace Go.Rf
open Go.RowKit
theorem PureN.pure {P : Program} {f : FuncId} {args : List AV} {r : AV} (h : PureN P f args r) (ha : ∀ x ∈ args, Closed x) (hr : Closed r) : PureC P f args r :=
  .of_callR (CallR.fresh_gen h (fun _ => none) (fun _ _ e => by cases e) rfl (fun j h1 h2 => .closed _ (ha _ (List.getElem_mem h1))) hr (.closed _ hr))
end Go.Rf


/- Own work: automata compared. -/
set_option linter.unusedVariables false
set_option linter.unusedSimpArgs false
namespace Go.Rf
open Go.RowKit

theorem CallD.cd {P : Program} {f : FuncId} {args : List AV} {r : AV} {S : St} (h : PureC P f args r) (hc : ∀ x ∈ args, Closed x) (hr : Closed r) : CallD P f args S [] r :=
  ⟨args, h, rfl, fun j h1 _ => .closed _ (hc _ (List.getElem_mem h1)), .inr (.inl ⟨rfl, hr⟩)⟩
end Go.Rf


/- Own work: the document's making of sets. -/
set_option linter.unusedVariables false
set_option linter.unusedSimpArgs false
namespace Go.Rf
open Go.RowKit
theorem Fz.aggL {g : Nat → Option Blk} {a b : List AV} (h : FzL g a b) : Fz g (.agg a) (.agg b) := .agg _ _ h.1 h.2
theorem Fz.tupL {g : Nat → Option Blk} {a b : List AV} (h : FzL g a b) : Fz g (.tup a) (.tup b) := .tup _ _ h.1 h.2
theorem fz_nil {g : Nat → Option Blk} : Fz g (.sl true []) (.sl false []) := .loose true [] (.sl _ _ (by simp))
end Go.Rf


/- Own work: how a net is laid: a state more, what stands behind states, forms parted (walk). -/
set_option linter.unusedVariables false
set_option linter.unusedSimpArgs false
namespace Go.Rf
open Go.RowKit
attribute [local simp] AWb_seq Z0m Z0n Z0j Z0k Z0r Z0l Z0p Z0q Z0o Z21 Z20 Z22 Z23 Z3d Z3e Z3a vIdx Z4x Z4w Z4y vApp Z4u Z3u Z11 Z10 Z0z Z0x Z0w Z0y Z17 Z16 Z15 Z13 Z12 Z14 Z2c Z2d Z2a Z2n Z31 Z30 Z07 Z08 Z06 Z01 Z02 Z00 Z04 Z05 Z03 Z1z Z1y Z46 Z48 Z47 Z45 Z1n Z1o Z1m Z3n Z3k Z3m Z3l Z3o Z1l Z29 Z32 Z3x Z1i Z1j Z1k Z3v Z3w Z1g Z28 Z1h Z3i Z3f Z3h Z3g Z3j Z41 Z40 Z0t Z0u Z0v Z0s Z1f Z4c Z4b Z4d Z4a Z49 ex Z43 Z42 ev_t ev_c Z27 Z26 Z4e Z4f Z2m Z2l Z2f Z2j Z2k Z2g Z2h Z2i putc exBslice lfill exField exIdxV exIdxP exBox exAlloc Z3b Z3c exStore exFieldA Z34 Z33 Z39 Z38 exPick exUn exBeq exMM exSeq seqGo exExt binV intOp subc Z4s Z4r Z4p Z4q Z4n Z4l Z4m Z4o Z4i Z4j Z4g Z4t S0 encI encB Z4k Z2e Z25 Z4h Z2b Z24 Z36 Z37 Z35 Z3s Z3t Z3r Z3p Z3q idxT_Bs
abbrev HSetc (P : Program) (f : FuncId) : Prop := ∀ l : List Int, l.length ≤ 1000000 → PureC P f [encIs l] (encIs (setF l))
def nfG (sg : Int) (st : Gs) (ss be : List Int) (k : Nat) (_ : Unit) : List (Nat × Option Blk) := mG sg true ⟨st.by_, folF st.fo (ss.take k) be⟩ 0 1 2
end Go.Rf


/- Own work: how a net is laid: forms parted, one after the other (walk). -/
set_option linter.unusedVariables false
set_option linter.unusedSimpArgs false
namespace Go.Rf
open Go.RowKit
attribute [local simp] AWb_seq Z0m Z0n Z0j Z0k Z0r Z0l Z0p Z0q Z0o Z21 Z20 Z22 Z23 Z3d Z3e Z3a vIdx Z4x Z4w Z4y vApp Z4u Z3u Z11 Z10 Z0z Z0x Z0w Z0y Z17 Z16 Z15 Z13 Z12 Z14 Z2c Z2d Z2a Z2n Z31 Z30 Z07 Z08 Z06 Z01 Z02 Z00 Z04 Z05 Z03 Z1z Z1y Z46 Z48 Z47 Z45 Z1n Z1o Z1m Z3n Z3k Z3m Z3l Z3o Z1l Z29 Z32 Z3x Z1i Z1j Z1k Z3v Z3w Z1g Z28 Z1h Z3i Z3f Z3h Z3g Z3j Z41 Z40 Z0t Z0u Z0v Z0s Z1f Z4c Z4b Z4d Z4a Z49 ex Z43 Z42 ev_t ev_c Z27 Z26 Z4e Z4f Z2m Z2l Z2f Z2j Z2k Z2g Z2h Z2i putc exBslice lfill exField exIdxV exIdxP exBox exAlloc Z3b Z3c exStore exFieldA Z34 Z33 Z39 Z38 exPick exUn exBeq exMM exSeq seqGo exExt binV intOp subc Z4s Z4r Z4p Z4q Z4n Z4l Z4m Z4o Z4i Z4j Z4g Z4t S0 encI encB Z4k Z2e Z25 Z4h Z2b Z24 Z36 Z37 Z35 Z3s Z3t Z3r Z3p Z3q idxT_Bs
def encEd (e : Ed) : AV := .agg [encB e.nul, encIs e.fst, encIs e.lst]
theorem closed_Ed (e : Ed) : Closed (encEd e) := .agg _ (cl_cons (Z2o _) (cl_cons (Z2s _) (cl_cons (Z2s _) cl_nil)))
theorem cells_Ed (e : Ed) : (encEd e).cells = [encB e.nul, encIs e.fst, encIs e.lst] := rfl
theorem solid_Ed (e : Ed) : (encEd e).solid = true := rfl
theorem agg_Ed (e : Ed) : AV.agg [.v (.bool e.nul), encIs e.fst, encIs e.lst] = encEd e := rfl
def ed0 (b : Bool) : Ed := ⟨b, [], []⟩
/-! ### of several forms -/
def FormOkW (P : Program) (f : FuncId) (sg : Int) (q : Pat) : Prop := ∀ st : Gs, StN st → st.by_.length + cntP q ≤ 10000 → CallM P f [encPat q] sg true st (gform sg q st).2 (encEd (gform sg q st).1)
theorem closed_Patx (l : List Pat) : Closed (.sl false (l.map encPat)) := .sl _ _ (Cls_map closed_Pat l)
theorem geach_len (sg : Int) : ∀ (ks : List Pat) (st : Gs), (geach sg ks st).1.length = ks.length
  | [], st => by simp only [geach]; rfl
  | q :: qs, st => by simp only [geach, List.length_cons]; rw [geach_len sg qs]
end Go.Rf


/- Own work: how a net is laid: signs that there aren't are left out (walk of slices.DeleteFunc). -/
set_option linter.unusedVariables false
set_option linter.unusedSimpArgs false
namespace Go.Rf
open Go.RowKit
attribute [local simp] AWb_seq Z0m Z0n Z0j Z0k Z0r Z0l Z0p Z0q Z0o Z21 Z20 Z22 Z23 Z3d Z3e Z3a vIdx Z4x Z4w Z4y vApp Z4u Z3u Z11 Z10 Z0z Z0x Z0w Z0y Z17 Z16 Z15 Z13 Z12 Z14 Z2c Z2d Z2a Z2n Z31 Z30 Z07 Z08 Z06 Z01 Z02 Z00 Z04 Z05 Z03 Z1z Z1y Z46 Z48 Z47 Z45 Z1n Z1o Z1m Z3n Z3k Z3m Z3l Z3o Z1l Z29 Z32 Z3x Z1i Z1j Z1k Z3v Z3w Z1g Z28 Z1h Z3i Z3f Z3h Z3g Z3j Z41 Z40 Z0t Z0u Z0v Z0s Z1f Z4c Z4b Z4d Z4a Z49 ex Z43 Z42 ev_t ev_c Z27 Z26 Z4e Z4f Z2m Z2l Z2f Z2j Z2k Z2g Z2h Z2i putc exBslice lfill exField exIdxV exIdxP exBox exAlloc Z3b Z3c exStore exFieldA Z34 Z33 Z39 Z38 exPick exUn exBeq exMM exSeq seqGo exExt binV intOp subc Z4s Z4r Z4p Z4q Z4n Z4l Z4m Z4o Z4i Z4j Z4g Z4t S0 encI encB Z4k Z2e Z25 Z4h Z2b Z24 Z36 Z37 Z35 Z3s Z3t Z3r Z3p Z3q idxT_Bs
def kpI (sg n : Int) : Bool := decide (0 ≤ n) && decide (n < sg)
def dG (sg : Int) (o : Bool) (st : Gs) (l : List Int) : List (Nat × Option Blk) := (4, vB o 1 (l.map encI)) :: (3, some (.arr 1 [.ptr 0 0 0])) :: mG sg true st 0 1 2
def DelOut (sg : Int) (o : Bool) (st : Gs) (l : List Int) (r : AV) (S' : St) : Prop :=
  ∃ xs : List Int, (r = if o = true then .own 4 0 (l.filter (kpI sg)).length else .sl true []) ∧ xs.take (l.filter (kpI sg)).length = l.filter (kpI sg) ∧ xs.length = l.length ∧ S' = ⟨10, gOf (dG sg o st xs)⟩
end Go.Rf


/- Own work: how a net is laid: copies, and what is left out of them, wherever they lie. -/
set_option linter.unusedVariables false
set_option linter.unusedSimpArgs false
namespace Go.Rf
open Go.RowKit
def neB (l : List Int) : Bool := !l.isEmpty
theorem clone_use {P : Program} {fc : FuncId} (H : ByC P fc (c_cloneOv 1 8 (.v (.int .i64 0))) [.t 2] 1) (l : List Int) (hl : l.length ≤ 1000000) {S : St} {K : AV → St → Prop} (hg : S.g (S.n + 5) = none)
    (hk : K (vV (neB l) (S.n + 5) (l.map encI)) ((St.mk (S.n + 7) S.g).set (S.n + 5) (vB (neB l) 1 (l.map encI)))) : CallR P fc [encIs l] S K := by
  refine H rfl ?_
  have hb : exBslice 1 0 (.v (.int .i64 0)) [] = some (.sl true []) := exBslice_nil _ _
  by_cases h0 : l = []
  · subst h0
    have hr : ∀ n nid, (exApp 1 8 (.sl true []) (.sl false [])).run ⟨n, S.g⟩ nid = some (.sl true [], ⟨n, S.g⟩) := by
      intro n nid
      simp [exApp, lstE, AV.oid, Eff.run, St.setL, St.setO, appOk]
    have hs : ∀ n, (St.mk n S.g).set (S.n + 5) none = St.mk n S.g := fun n => by
      simp only [St.set, St.mk.injEq, true_and]
      funext j
      simp only [updF]
      split
      · rename_i h; subst h; exact hg.symm
      · rfl
    simp only [neB, List.isEmpty_nil, Bool.not_true, List.map_nil, vV_f, vB_f, hs] at hk
    simp [Z0h, Z0c, Z0d, Z09, Z0a, Z0i, Z0b, Z0f, Z0g, Z2z, Z2y, Z07, Z08, Z06, Z01, Z02, Z00, Z04, Z05, Z03, Z1z, Z1y, Z46, Z48, Z47, Z45, Z1n, Z1o, Z1m, Z3n, Z3k, Z3m, Z3l, Z3o, Z1l, Z29, Z32, Z3x, Z1i, Z1j, Z1k, Z3v, Z3w, Z1g, Z28, Z1h, Z3i, Z3f, Z3h, Z3g, Z3j, Z41, Z40, Z0t, Z0u, Z0v, Z0s, Z1f, Z4c, Z4b, Z4d, Z4a, Z49, ex, Z43, Z42, ev_t, ev_c, Z27, Z26, Z4e, Z4f, Z2m, Z2l, Z2f, Z2j, Z2k, Z2g, Z2h, Z2i, putc, exBslice, lfill, exField, exIdxV, exIdxP, exBox, exAlloc, exLoad, exStore, exFieldA, exIdxA, exLen, exPick, exUn, exBeq, exMM, exSeq, seqGo, exExt, binV, intOp, subc, AV.solid, S0, encI, encB, c_cloneOv, encIs, hb, hr]
    refine ⟨[.sl true []], by simp [evC, RV.ev, Z43], ?_⟩
    simp [Z0h, Z0c, Z0d, Z09, Z0a, Z0i, Z0b, Z0f, Z0g, Z2z, Z2y, Z07, Z08, Z06, Z01, Z02, Z00, Z04, Z05, Z03, Z1z, Z1y, Z46, Z48, Z47, Z45, Z1n, Z1o, Z1m, Z3n, Z3k, Z3m, Z3l, Z3o, Z1l, Z29, Z32, Z3x, Z1i, Z1j, Z1k, Z3v, Z3w, Z1g, Z28, Z1h, Z3i, Z3f, Z3h, Z3g, Z3j, Z41, Z40, Z0t, Z0u, Z0v, Z0s, Z1f, Z4c, Z4b, Z4d, Z4a, Z49, ex, Z43, Z42, ev_t, ev_c, Z27, Z26, Z4e, Z4f, Z2m, Z2l, Z2f, Z2j, Z2k, Z2g, Z2h, Z2i, putc, exBslice, lfill, exField, exIdxV, exIdxP, exBox, exAlloc, exLoad, exStore, exFieldA, exIdxA, exLen, exPick, exUn, exBeq, exMM, exSeq, seqGo, exExt, binV, intOp, subc, AV.solid, S0, encI, encB, packC]
    exact hk
  · have hn : neB l = true := by cases l with
      | nil => exact (h0 rfl).elim
      | cons x l => rfl
    have hr : ∀ n nid, (exApp 1 8 (.sl true []) (.sl false (l.map encI))).run ⟨n, S.g⟩ nid = some (.own nid 0 l.length, (⟨n, S.g⟩ : St).set nid (some (.arr 1 (l.map encI)))) := by
      intro n nid
      have hc := cells_I l
      have ha : appOk 8 0 l.length := by unfold appOk; omega
      have hc2 : ∀ x ∈ l.map encI, x.cells.length = 1 := hc
      have h3 : lstE 1 [] (.sl false (l.map encI)) = some (l.map encI) := by simp only [lstE]; rw [if_pos hc2]
      have h4 : ¬ (l.map encI).length = 0 := by simp; exact h0
      simp only [exApp, Eff.run, AV.oid, List.mapM_nil, Option.pure_def, h3, Option.bind_some, List.length_nil, Nat.zero_add, List.length_map, ha, and_true]
      rw [if_pos (by simp), if_neg (by simpa using h0)]
      simp [St.setL, St.setO]
    rw [hn, vV_t, vB_t, List.length_map] at hk
    simp [Z0h, Z0c, Z0d, Z09, Z0a, Z0i, Z0b, Z0f, Z0g, Z2z, Z2y, Z07, Z08, Z06, Z01, Z02, Z00, Z04, Z05, Z03, Z1z, Z1y, Z46, Z48, Z47, Z45, Z1n, Z1o, Z1m, Z3n, Z3k, Z3m, Z3l, Z3o, Z1l, Z29, Z32, Z3x, Z1i, Z1j, Z1k, Z3v, Z3w, Z1g, Z28, Z1h, Z3i, Z3f, Z3h, Z3g, Z3j, Z41, Z40, Z0t, Z0u, Z0v, Z0s, Z1f, Z4c, Z4b, Z4d, Z4a, Z49, ex, Z43, Z42, ev_t, ev_c, Z27, Z26, Z4e, Z4f, Z2m, Z2l, Z2f, Z2j, Z2k, Z2g, Z2h, Z2i, putc, exBslice, lfill, exField, exIdxV, exIdxP, exBox, exAlloc, exLoad, exStore, exFieldA, exIdxA, exLen, exPick, exUn, exBeq, exMM, exSeq, seqGo, exExt, binV, intOp, subc, AV.solid, S0, encI, encB, c_cloneOv, encIs, hb, hr]
    refine ⟨[.own (S.n + 5) 0 l.length], by simp [evC, RV.ev, Z43], ?_⟩
    simp [Z0h, Z0c, Z0d, Z09, Z0a, Z0i, Z0b, Z0f, Z0g, Z2z, Z2y, Z07, Z08, Z06, Z01, Z02, Z00, Z04, Z05, Z03, Z1z, Z1y, Z46, Z48, Z47, Z45, Z1n, Z1o, Z1m, Z3n, Z3k, Z3m, Z3l, Z3o, Z1l, Z29, Z32, Z3x, Z1i, Z1j, Z1k, Z3v, Z3w, Z1g, Z28, Z1h, Z3i, Z3f, Z3h, Z3g, Z3j, Z41, Z40, Z0t, Z0u, Z0v, Z0s, Z1f, Z4c, Z4b, Z4d, Z4a, Z49, ex, Z43, Z42, ev_t, ev_c, Z27, Z26, Z4e, Z4f, Z2m, Z2l, Z2f, Z2j, Z2k, Z2g, Z2h, Z2i, putc, exBslice, lfill, exField, exIdxV, exIdxP, exBox, exAlloc, exLoad, exStore, exFieldA, exIdxA, exLen, exPick, exUn, exBeq, exMM, exSeq, seqGo, exExt, binV, intOp, subc, AV.solid, S0, encI, encB, packC]
    exact hk
end Go.Rf


/- Own work: how a net is laid: a form (walk). -/
set_option linter.unusedVariables false
set_option linter.unusedSimpArgs false
namespace Go.Rf
open Go.RowKit
attribute [local simp] AWb_seq Z0m Z0n Z0j Z0k Z0r Z0l Z0p Z0q Z0o Z21 Z20 Z22 Z23 Z3d Z3e Z3a vIdx Z4x Z4w Z4y vApp Z4u Z3u Z11 Z10 Z0z Z0x Z0w Z0y Z17 Z16 Z15 Z13 Z12 Z14 Z2c Z2d Z2a Z2n Z31 Z30 Z07 Z08 Z06 Z01 Z02 Z00 Z04 Z05 Z03 Z1z Z1y Z46 Z48 Z47 Z45 Z1n Z1o Z1m Z3n Z3k Z3m Z3l Z3o Z1l Z29 Z32 Z3x Z1i Z1j Z1k Z3v Z3w Z1g Z28 Z1h Z3i Z3f Z3h Z3g Z3j Z41 Z40 Z0t Z0u Z0v Z0s Z1f Z4c Z4b Z4d Z4a Z49 ex Z43 Z42 ev_t ev_c Z27 Z26 Z4e Z4f Z2m Z2l Z2f Z2j Z2k Z2g Z2h Z2i putc exBslice lfill exField exIdxV exIdxP exBox exAlloc Z3b Z3c exStore exFieldA Z34 Z33 Z39 Z38 exPick exUn exBeq exMM exSeq seqGo exExt binV intOp subc Z4s Z4r Z4p Z4q Z4n Z4l Z4m Z4o Z4i Z4j Z4g Z4t S0 encI encB Z4k Z2e Z25 Z4h Z2b Z24 Z36 Z37 Z35 Z3s Z3t Z3r Z3p Z3q idxT_Bs
structure NetFns (P : Program) (sg : Int) (ff fc f1 fd fset fst fe fj fei ffo : FuncId) : Prop where
  clone : ByC P fc (c_cloneOv 1 8 (.v (.int .i64 0))) [.t 2] 1
  del : ∀ (l : List Int), l.length ≤ 1000000 → ∀ (o : Bool), (o = true ∨ l = []) → ∀ (st : Gs), CallR P fd [vV o 4 (l.map encI), .clo f1 [] [.ptr 3 0 0]] ⟨5, gOf (dG sg o st l)⟩ (DelOut sg o st l)
  set : HSetc P fset
  state : ∀ (o : Bool) (b : List Int) (st : Gs), st.fo.length = st.by_.length → st.by_.length ≤ 100000 → CallM P fst [encIs b] sg o st ⟨st.by_ ++ [b], st.fo ++ [[]]⟩ (encI st.by_.length)
  each : ∀ (ks : List Pat), ks.length ≤ 100000 → (∀ q ∈ ks, FormOkW P ff sg q) → ∀ (st : Gs), StN st → st.by_.length + cntL ks ≤ 10000 → CallM P fe [.sl false (ks.map encPat)] sg true st (geach sg ks st).2 (.sl false ((geach sg ks st).1.map encEd))
  join : ∀ (es : List Ed), es.length ≤ 100000 → ∀ (st : Gs), StN st → (∀ e ∈ es, EdN st.by_.length e) → st.by_.length ≤ 10000 → CallM P fj [.sl false (es.map encEd)] sg true st (gjoin es (ed0 true) st).2 (encEd (gjoin es (ed0 true) st).1)
  either : ∀ (es : List Ed), es.length ≤ 100000 → (∀ e ∈ es, EdN 100000 e) → PureC P fei [.sl false (es.map encEd)] (encEd (geither es (ed0 false)))
  follow : ∀ (ss be : List Int) (st : Gs), StN st → UpN st.by_.length ss → UpN st.by_.length be → st.by_.length ≤ 100000 → CallM P ffo [encIs ss, encIs be] sg true st ⟨st.by_, folF st.fo ss be⟩ (.tup [])
theorem gOf_m5 (sg : Int) (o : Bool) (st : Gs) (x : Option Blk) : gOf (mG sg o st 0 3 4 ++ [(5, x)]) 5 = x := by simp [mG, gOf]
end Go.Rf

