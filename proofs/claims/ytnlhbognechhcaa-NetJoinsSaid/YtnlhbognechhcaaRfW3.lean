import Derived.Recover
import Derived.Test.YtnlhbognechhcaaRfWk
import Derived.Test.YtnlhbognechhcaaRfE6
import Derived.Test.YtnlhbognechhcaaRfN1
import Derived.Test.YtnlhbognechhcaaRfPan
import Derived.Test.YtnlhbognechhcaaRfNb
import Derived.Test.YtnlhbognechhcaaRfW2
import Derived.Test.YtnlhbognechhcaaRfN4
import Derived.Test.YtnlhbognechhcaaRfB16
/- Own work: a function that lays cells, looks whether to go on, defers a closure that recovers, and goes on. -/
set_option linter.unusedVariables false
set_option linter.unusedSimpArgs false
namespace Go.Rf
open Go.RowKit

structure M1 where
  a0 : AC
  ag : AC
  d : Nat
  g : FuncId
  x : Nat
  y : Nat
  ar : AC
  nt : Nat
  rs : List RV
end Go.Rf


/- Own work: det.make1 and the closures that it is given. -/
set_option linter.unusedVariables false
set_option linter.unusedSimpArgs false
namespace Go.Rf
open Go.RowKit
def c_det_make1_2 : AC :=
  (.seq (.reg none [
   ⟨(some 6), .mv (.c (.sl true [])), none, none⟩])
  (.seq (.reg none [
   ⟨(some 7), .load none (.t 2), none, none⟩,
   ⟨(some 8), .load none (.t 3), none, none⟩,
   ⟨(some 9), .mv (.t 0), none, none⟩,
   ⟨(some 10), .mv (.t 1), none, none⟩,
   ⟨(some 11), .mv (.c .junk), none, (some ((.t 7), [(.t 8), (.t 9), (.t 10)]))⟩,
   ⟨(some 6), .mv (.t 11), none, none⟩])
  .ret))
def c_det_Tails_1 (f_det_maker_step f_slices_Concat_Sint_int_ : FuncId) : AC :=
  (.seq (.reg none [
   ⟨(some 6), .mv (.c (.sl true [])), none, none⟩])
  (.seq (.reg none [
   ⟨(some 7), .bslice 1 1 (.v (.int .i64 0)) [(0, (.c (.v (.int .i64 0))))], none, none⟩,
   ⟨(some 8), .mv (.t 0), none, none⟩,
   ⟨(some 9), .mv (.t 1), none, none⟩,
   ⟨(some 10), .mv (.t 2), none, none⟩,
   ⟨(some 11), .mv (.c .junk), none, (some ((.c (.clo f_det_maker_step [] [])), [(.t 8), (.t 9), (.t 10)]))⟩,
   ⟨(some 12), .bslice 1 2 (.sl true []) [(0, (.t 7)), (1, (.t 11))], none, none⟩,
   ⟨(some 13), .mv (.c .junk), none, (some ((.c (.clo f_slices_Concat_Sint_int_ [] [])), [(.t 12)]))⟩,
   ⟨(some 6), .mv (.t 13), none, none⟩])
  .ret))
def c_det_Heads_1 (f_det_maker_ends f_det_maker_step : FuncId) : AC :=
  (.seq (.reg none [
   ⟨(some 6), .mv (.c (.sl true [])), none, none⟩])
  (.seq (.seq (.reg none [
   ⟨(some 7), .mv (.t 0), none, none⟩,
   ⟨(some 8), .mv (.t 1), none, none⟩,
   ⟨(some 9), .mv (.c .junk), none, (some ((.c (.clo f_det_maker_ends [] [])), [(.t 7), (.t 8)]))⟩])
  (.cond (.t 9) (.seq (.reg none [
    ⟨(some 10), .mv (.t 1), none, none⟩,
    ⟨(some 6), .mv (.t 10), none, none⟩])
   .ret) .skip))
  (.seq (.reg none [
   ⟨(some 11), .mv (.t 0), none, none⟩,
   ⟨(some 12), .mv (.t 1), none, none⟩,
   ⟨(some 13), .mv (.t 2), none, none⟩,
   ⟨(some 14), .mv (.c .junk), none, (some ((.c (.clo f_det_maker_step [] [])), [(.t 11), (.t 12), (.t 13)]))⟩,
   ⟨(some 6), .mv (.t 14), none, none⟩])
  .ret)))
/-- What is asked of what stands behind a set. -/
def HB (P : Program) (fb : FuncId) (n : Net) (kd : Kd) : Prop := ∀ (S : St) (id km : Nat) (most : Int) (ss : List (List Int)) (v : AV) (set : List Int) (s : Int) (K : AV → St → Prop), MkS S id km n most ss v → Val n set →
  (∀ m, S.n ≤ m → K (encIs (bhS kd n set s)) ⟨m, S.g⟩) → CallR P fb [.ptr id 0 0, encIs set, encI s] S K
def HStp (P : Program) (f : FuncId) (n : Net) : Prop := ∀ set s, Val n set → PureN P f [pNet n, encIs set, encI s] (encIs (stepN n set s))
def HEnds (P : Program) (f : FuncId) (n : Net) : Prop := ∀ set, Val n set → PureC P f [pNet n, encIs set] (encB (endsB n set))
theorem MkS.pre {S : St} {id km : Nat} {n : Net} {most : Int} {ss : List (List Int)} {v : AV} (M : MkS S id km n most ss v) {g : Nat → Option Blk} (hg : g id = S.g id) : Fz g (.ptr id 0 0) (pNet n) :=
  .pre id 7 [encI n.signs, encIss n.by_, encIss n.follow, encIs n.last] [encI most, .mp km, v] (by rw [hg]; exact M.g) (by
    intro y hy
    simp only [List.mem_cons, List.not_mem_nil, or_false] at hy
    rcases hy with rfl | rfl | rfl | rfl
    · exact Z2r _
    · exact Z2t _
    · exact Z2t _
    · exact Z2s _)
theorem HB.whole {P : Program} {f : FuncId} {n : Net} (h : HStp P f n) : HB P f n .whole := by
  intro S id km most ss v set s K M hv hk
  have hz : FzL S.g [.ptr id 0 0, encIs set, encI s] [pNet n, encIs set, encI s] := FzL.cons (M.pre rfl) (FzL.cons (.closed _ (Z2s _)) (FzL.cons (.closed _ (Z2r _)) FzL.nil))
  exact CallR.fresh_gen (h set s hv) S.g (fun _ _ e => e) hz.1 hz.2 (Z2s _) (hk S.n (Nat.le_refl _))
theorem HB.tails {P : Program} (hm : P.follows .mixedOrders = true) {f fs fc : FuncId} {n : Net} (R : RightN n) (h : HStp P fs n) (hf : Is P f (c_det_Tails_1 fs fc) [6] 3)
    (hc : ∀ l : List Int, l.length ≤ 1000 → PureC P fc [.sl true [.sl true [encI 0], encIs l]] (encIs (0 :: l))) : HB P f n .tails := by
  intro S id km most ss v set s K M hv hk
  have hb := HB.whole h
  refine hf.callR hm rfl ?_
  simp [Z0h, Z0c, Z0d, Z09, Z0a, Z0i, Z0b, Z0f, Z0g, Z2z, Z2y, Z07, Z08, Z06, Z01, Z02, Z00, Z04, Z05, Z03, Z1z, Z1y, Z46, Z48, Z47, Z45, Z1n, Z1o, Z1m, Z3n, Z3k, Z3m, Z3l, Z3o, Z1l, Z29, Z32, Z3x, Z1i, Z1j, Z1k, Z3v, Z3w, Z1g, Z28, Z1h, Z3i, Z3f, Z3h, Z3g, Z3j, Z41, Z40, Z0t, Z0u, Z0v, Z0s, Z1f, Z4c, Z4b, Z4d, Z4a, Z49, ex, Z43, Z42, ev_t, ev_c, Z27, Z26, Z4e, Z4f, Z2m, Z2l, Z2f, Z2j, Z2k, Z2g, Z2h, Z2i, putc, exBslice, lfill, exField, exIdxV, exIdxP, exBox, exAlloc, exLoad, exStore, exFieldA, exIdxA, exLen, exPick, exUn, exBeq, exMM, exSeq, seqGo, exExt, binV, intOp, subc, AV.solid, S0, encI, encB, c_det_Tails_1]
  refine hb _ id km most ss v set s _ ⟨M.g, M.m, M.vec, M.ne, M.hv, Nat.lt_of_lt_of_le M.lid (by show S.n ≤ S.n + 1 + 8; omega), Nat.lt_of_lt_of_le M.lkm (by show S.n ≤ S.n + 1 + 8; omega), fun i hi => Nat.lt_of_lt_of_le (M.lv i hi) (by show S.n ≤ S.n + 1 + 8; omega)⟩ hv fun m hm2 => ?_
  have h1 : (encIs (bhS .whole n set s)).cells = [encIs (bhS .whole n set s)] := rfl
  have h2 : (encIs (bhS .whole n set s)).solid = true := rfl
  simp only [AV.solid] at h2
  simp [Z0h, Z0c, Z0d, Z09, Z0a, Z0i, Z0b, Z0f, Z0g, Z2z, Z2y, Z07, Z08, Z06, Z01, Z02, Z00, Z04, Z05, Z03, Z1z, Z1y, Z46, Z48, Z47, Z45, Z1n, Z1o, Z1m, Z3n, Z3k, Z3m, Z3l, Z3o, Z1l, Z29, Z32, Z3x, Z1i, Z1j, Z1k, Z3v, Z3w, Z1g, Z28, Z1h, Z3i, Z3f, Z3h, Z3g, Z3j, Z41, Z40, Z0t, Z0u, Z0v, Z0s, Z1f, Z4c, Z4b, Z4d, Z4a, Z49, ex, Z43, Z42, ev_t, ev_c, Z27, Z26, Z4e, Z4f, Z2m, Z2l, Z2f, Z2j, Z2k, Z2g, Z2h, Z2i, putc, exBslice, lfill, exField, exIdxV, exIdxP, exBox, exAlloc, exLoad, exStore, exFieldA, exIdxA, exLen, exPick, exUn, exBeq, exMM, exSeq, seqGo, exExt, binV, intOp, subc, AV.solid, S0, encI, encB, h1, h2]
  refine CallR.pure (hc _ ?_) (cl_cons (.sl _ _ (by
    intro y hy
    simp only [List.mem_cons, List.not_mem_nil, or_false] at hy
    rcases hy with rfl | rfl
    · exact .sl _ _ (by intro y hy; simp only [List.mem_cons, List.not_mem_nil, or_false] at hy; subst hy; exact Z2r _)
    · exact Z2s _)) cl_nil) (Z2s _) ?_
  · have := (step_val R set s).2
    show (stepN n set s).length ≤ 1000
    omega
  · simp [Z0h, Z0c, Z0d, Z09, Z0a, Z0i, Z0b, Z0f, Z0g, Z2z, Z2y, Z07, Z08, Z06, Z01, Z02, Z00, Z04, Z05, Z03, Z1z, Z1y, Z46, Z48, Z47, Z45, Z1n, Z1o, Z1m, Z3n, Z3k, Z3m, Z3l, Z3o, Z1l, Z29, Z32, Z3x, Z1i, Z1j, Z1k, Z3v, Z3w, Z1g, Z28, Z1h, Z3i, Z3f, Z3h, Z3g, Z3j, Z41, Z40, Z0t, Z0u, Z0v, Z0s, Z1f, Z4c, Z4b, Z4d, Z4a, Z49, ex, Z43, Z42, ev_t, ev_c, Z27, Z26, Z4e, Z4f, Z2m, Z2l, Z2f, Z2j, Z2k, Z2g, Z2h, Z2i, putc, exBslice, lfill, exField, exIdxV, exIdxP, exBox, exAlloc, exLoad, exStore, exFieldA, exIdxA, exLen, exPick, exUn, exBeq, exMM, exSeq, seqGo, exExt, binV, intOp, subc, AV.solid, S0, encI, encB]
    exact hk _ (by simp only at hm2; omega)
theorem HB.heads {P : Program} (hm : P.follows .mixedOrders = true) {f fs fe : FuncId} {n : Net} (h : HStp P fs n) (he : HEnds P fe n) (hf : Is P f (c_det_Heads_1 fe fs) [6] 3) : HB P f n .heads := by
  intro S id km most ss v set s K M hv hk
  have hb := HB.whole h
  have hMm : ∀ m, S.n ≤ m → MkS ⟨m, S.g⟩ id km n most ss v := fun m hm2 => ⟨M.g, M.m, M.vec, M.ne, M.hv, Nat.lt_of_lt_of_le M.lid hm2, Nat.lt_of_lt_of_le M.lkm hm2, fun i hi => Nat.lt_of_lt_of_le (M.lv i hi) hm2⟩
  refine hf.callR hm rfl ?_
  simp [Z0h, Z0c, Z0d, Z09, Z0a, Z0i, Z0b, Z0f, Z0g, Z2z, Z2y, Z07, Z08, Z06, Z01, Z02, Z00, Z04, Z05, Z03, Z1z, Z1y, Z46, Z48, Z47, Z45, Z1n, Z1o, Z1m, Z3n, Z3k, Z3m, Z3l, Z3o, Z1l, Z29, Z32, Z3x, Z1i, Z1j, Z1k, Z3v, Z3w, Z1g, Z28, Z1h, Z3i, Z3f, Z3h, Z3g, Z3j, Z41, Z40, Z0t, Z0u, Z0v, Z0s, Z1f, Z4c, Z4b, Z4d, Z4a, Z49, ex, Z43, Z42, ev_t, ev_c, Z27, Z26, Z4e, Z4f, Z2m, Z2l, Z2f, Z2j, Z2k, Z2g, Z2h, Z2i, putc, exBslice, lfill, exField, exIdxV, exIdxP, exBox, exAlloc, exLoad, exStore, exFieldA, exIdxA, exLen, exPick, exUn, exBeq, exMM, exSeq, seqGo, exExt, binV, intOp, subc, AV.solid, S0, encI, encB, c_det_Heads_1]
  refine CallR.looks (S := ⟨S.n + 1 + 3, S.g⟩) (he set hv) (FzL.cons (M.pre rfl) (FzL.cons (.closed _ (Z2s _)) FzL.nil)) (plain_B _) ?_
  cases hq : endsB n set with
  | true =>
    simp [Z0h, Z0c, Z0d, Z09, Z0a, Z0i, Z0b, Z0f, Z0g, Z2z, Z2y, Z07, Z08, Z06, Z01, Z02, Z00, Z04, Z05, Z03, Z1z, Z1y, Z46, Z48, Z47, Z45, Z1n, Z1o, Z1m, Z3n, Z3k, Z3m, Z3l, Z3o, Z1l, Z29, Z32, Z3x, Z1i, Z1j, Z1k, Z3v, Z3w, Z1g, Z28, Z1h, Z3i, Z3f, Z3h, Z3g, Z3j, Z41, Z40, Z0t, Z0u, Z0v, Z0s, Z1f, Z4c, Z4b, Z4d, Z4a, Z49, ex, Z43, Z42, ev_t, ev_c, Z27, Z26, Z4e, Z4f, Z2m, Z2l, Z2f, Z2j, Z2k, Z2g, Z2h, Z2i, putc, exBslice, lfill, exField, exIdxV, exIdxP, exBox, exAlloc, exLoad, exStore, exFieldA, exIdxA, exLen, exPick, exUn, exBeq, exMM, exSeq, seqGo, exExt, binV, intOp, subc, AV.solid, S0, encI, encB]
    have := hk (S.n + 1 + 3 + 2) (by omega)
    simp only [bhS, hq, if_true] at this
    exact this
  | false =>
    simp [Z0h, Z0c, Z0d, Z09, Z0a, Z0i, Z0b, Z0f, Z0g, Z2z, Z2y, Z07, Z08, Z06, Z01, Z02, Z00, Z04, Z05, Z03, Z1z, Z1y, Z46, Z48, Z47, Z45, Z1n, Z1o, Z1m, Z3n, Z3k, Z3m, Z3l, Z3o, Z1l, Z29, Z32, Z3x, Z1i, Z1j, Z1k, Z3v, Z3w, Z1g, Z28, Z1h, Z3i, Z3f, Z3h, Z3g, Z3j, Z41, Z40, Z0t, Z0u, Z0v, Z0s, Z1f, Z4c, Z4b, Z4d, Z4a, Z49, ex, Z43, Z42, ev_t, ev_c, Z27, Z26, Z4e, Z4f, Z2m, Z2l, Z2f, Z2j, Z2k, Z2g, Z2h, Z2i, putc, exBslice, lfill, exField, exIdxV, exIdxP, exBox, exAlloc, exLoad, exStore, exFieldA, exIdxA, exLen, exPick, exUn, exBeq, exMM, exSeq, seqGo, exExt, binV, intOp, subc, AV.solid, S0, encI, encB]
    refine hb _ id km most ss v set s _ (hMm _ (by omega)) hv fun m hm2 => ?_
    simp [Z0h, Z0c, Z0d, Z09, Z0a, Z0i, Z0b, Z0f, Z0g, Z2z, Z2y, Z07, Z08, Z06, Z01, Z02, Z00, Z04, Z05, Z03, Z1z, Z1y, Z46, Z48, Z47, Z45, Z1n, Z1o, Z1m, Z3n, Z3k, Z3m, Z3l, Z3o, Z1l, Z29, Z32, Z3x, Z1i, Z1j, Z1k, Z3v, Z3w, Z1g, Z28, Z1h, Z3i, Z3f, Z3h, Z3g, Z3j, Z41, Z40, Z0t, Z0u, Z0v, Z0s, Z1f, Z4c, Z4b, Z4d, Z4a, Z49, ex, Z43, Z42, ev_t, ev_c, Z27, Z26, Z4e, Z4f, Z2m, Z2l, Z2f, Z2j, Z2k, Z2g, Z2h, Z2i, putc, exBslice, lfill, exField, exIdxV, exIdxP, exBox, exAlloc, exLoad, exStore, exFieldA, exIdxA, exLen, exPick, exUn, exBeq, exMM, exSeq, seqGo, exExt, binV, intOp, subc, AV.solid, S0, encI, encB]
    have := hk m (by simp only at hm2; omega)
    simp only [bhS, hq, Bool.false_eq_true, if_false] at this
    exact this
/-- The closure over what stands behind a set. -/
theorem HB.clo {P : Program} (hm : P.follows .mixedOrders = true) {f fb : FuncId} {n : Net} {kd : Kd} (h : HB P fb n kd) (hf : Is P f c_det_make1_2 [6] 4) {S00 : St} {id km k5 k8 : Nat} {most : Int} (h5 : S00.g k5 = some (.arr 1 [.clo fb [] []])) (h8 : S00.g k8 = some (.arr 1 [.ptr id 0 0]))
    (l5 : k5 < S00.n) (l8 : k8 < S00.n) (n5 : k5 ≠ id ∧ k5 ≠ km) (n8 : k8 ≠ id ∧ k8 ≠ km) : HBeh P f [.ptr k5 0 0, .ptr k8 0 0] S00 id km n most kd := by
  intro S ss v set s K M hold hv hk
  have g5 : S.g k5 = some (.arr 1 [.clo fb [] []]) := (hold.2 k5 l5 n5.1 n5.2).trans h5
  have g8 : S.g k8 = some (.arr 1 [.ptr id 0 0]) := (hold.2 k8 l8 n8.1 n8.2).trans h8
  have hMm : ∀ m, S.n ≤ m → MkS ⟨m, S.g⟩ id km n most ss v := fun m hm2 => ⟨M.g, M.m, M.vec, M.ne, M.hv, Nat.lt_of_lt_of_le M.lid hm2, Nat.lt_of_lt_of_le M.lkm hm2, fun i hi => Nat.lt_of_lt_of_le (M.lv i hi) hm2⟩
  refine hf.callR hm rfl ?_
  simp [Z0h, Z0c, Z0d, Z09, Z0a, Z0i, Z0b, Z0f, Z0g, Z2z, Z2y, Z07, Z08, Z06, Z01, Z02, Z00, Z04, Z05, Z03, Z1z, Z1y, Z46, Z48, Z47, Z45, Z1n, Z1o, Z1m, Z3n, Z3k, Z3m, Z3l, Z3o, Z1l, Z29, Z32, Z3x, Z1i, Z1j, Z1k, Z3v, Z3w, Z1g, Z28, Z1h, Z3i, Z3f, Z3h, Z3g, Z3j, Z41, Z40, Z0t, Z0u, Z0v, Z0s, Z1f, Z4c, Z4b, Z4d, Z4a, Z49, ex, Z43, Z42, ev_t, ev_c, Z27, Z26, Z4e, Z4f, Z2m, Z2l, Z2f, Z2j, Z2k, Z2g, Z2h, Z2i, putc, exBslice, lfill, exField, exIdxV, exIdxP, exBox, exAlloc, exLoad, exStore, exFieldA, exIdxA, exLen, exPick, exUn, exBeq, exMM, exSeq, seqGo, exExt, binV, intOp, subc, AV.solid, S0, encI, encB, c_det_make1_2, g5, g8]
  refine h _ id km most ss v set s _ (hMm _ (by omega)) hv fun m hm2 => ?_
  simp [Z0h, Z0c, Z0d, Z09, Z0a, Z0i, Z0b, Z0f, Z0g, Z2z, Z2y, Z07, Z08, Z06, Z01, Z02, Z00, Z04, Z05, Z03, Z1z, Z1y, Z46, Z48, Z47, Z45, Z1n, Z1o, Z1m, Z3n, Z3k, Z3m, Z3l, Z3o, Z1l, Z29, Z32, Z3x, Z1i, Z1j, Z1k, Z3v, Z3w, Z1g, Z28, Z1h, Z3i, Z3f, Z3h, Z3g, Z3j, Z41, Z40, Z0t, Z0u, Z0v, Z0s, Z1f, Z4c, Z4b, Z4d, Z4a, Z49, ex, Z43, Z42, ev_t, ev_c, Z27, Z26, Z4e, Z4f, Z2m, Z2l, Z2f, Z2j, Z2k, Z2g, Z2h, Z2i, putc, exBslice, lfill, exField, exIdxV, exIdxP, exBox, exAlloc, exLoad, exStore, exFieldA, exIdxA, exLen, exPick, exUn, exBeq, exMM, exSeq, seqGo, exExt, binV, intOp, subc, AV.solid, S0, encI, encB]
  exact hk m (by simp only at hm2; omega)
end Go.Rf


/- Own work: det.Whole, det.Tails, det.Heads. -/
set_option linter.unusedVariables false
set_option linter.unusedSimpArgs false
namespace Go.Rf
open Go.RowKit
theorem PureN.pure {P : Program} {f : FuncId} {args : List AV} {r : AV} (h : PureN P f args r) (ha : ∀ x ∈ args, Closed x) (hr : Closed r) : PureC P f args r :=
  .of_callR (CallR.fresh_gen h (fun _ => none) (fun _ _ e => by cases e) rfl (fun j h1 h2 => .closed _ (ha _ (List.getElem_mem h1))) hr (.closed _ hr))
end Go.Rf


/- Own work: automata compared. -/
set_option linter.unusedVariables false
set_option linter.unusedSimpArgs false
namespace Go.Rf
open Go.RowKit

theorem CallD.cd {P : Program} {f : FuncId} {args : List AV} {r : AV} {S : St} (h : PureC P f args r) (hc : ∀ x ∈ args, Closed x) (hr : Closed r) : CallD P f args S [] r :=
  ⟨args, h, rfl, fun j h1 _ => .closed _ (hc _ (List.getElem_mem h1)), .inr (.inl ⟨rfl, hr⟩)⟩
end Go.Rf


/- Own work: the document's making of sets. -/
set_option linter.unusedVariables false
set_option linter.unusedSimpArgs false
namespace Go.Rf
open Go.RowKit
theorem Fz.aggL {g : Nat → Option Blk} {a b : List AV} (h : FzL g a b) : Fz g (.agg a) (.agg b) := .agg _ _ h.1 h.2
theorem Fz.tupL {g : Nat → Option Blk} {a b : List AV} (h : FzL g a b) : Fz g (.tup a) (.tup b) := .tup _ _ h.1 h.2
theorem fz_nil {g : Nat → Option Blk} : Fz g (.sl true []) (.sl false []) := .loose true [] (.sl _ _ (by simp))
end Go.Rf


/- Own work: how a net is laid: a state more, what stands behind states, forms parted (walk). -/
set_option linter.unusedVariables false
set_option linter.unusedSimpArgs false
namespace Go.Rf
open Go.RowKit
def c_net_maker_state : AC :=
  (.seq (.reg none [
   ⟨(some 4), .mv (.c (.v (.int .i64 0))), none, none⟩])
  (.seq (.reg (some [[], [], [], [], [], [], [], [], [], [false, false, false, false, false, false, false, true, true], [true], [false, true], [false, false, true], [false, false, false, true], [false, false, false, false, true], [false, false, false, false, false, true], [false, false, false, false, false, false, false, false, false, false, false, false, false, false, true, true], [], [], [], [false, false, false, false, false, false, false, false, false, false, false, false, false, false, false, false, false, false, true]]) [
   ⟨(some 5), .mv (.t 0), none, none⟩,
   ⟨(some 6), .mv (.t 0), none, none⟩,
   ⟨(some 7), .mv (.t 0), none, none⟩,
   ⟨(some 8), .nilc (.t 7), none, none⟩,
   ⟨(some 9), .fieldA 0 (.t 8), none, none⟩,
   ⟨(some 10), .fieldA 1 (.t 9), none, none⟩,
   ⟨(some 11), .load none (.t 10), none, none⟩,
   ⟨(some 12), .mv (.t 1), none, none⟩,
   ⟨(some 13), .bslice 1 1 (.sl true []) [(0, (.t 12))], none, none⟩,
   ⟨(some 14), .app 1 24 (.t 11) (.t 13), none, none⟩,
   ⟨(some 15), .mv (.t 0), none, none⟩,
   ⟨(some 16), .nilc (.t 15), none, none⟩,
   ⟨(some 17), .fieldA 0 (.t 16), none, none⟩,
   ⟨(some 18), .fieldA 2 (.t 17), none, none⟩,
   ⟨(some 19), .load none (.t 18), none, none⟩,
   ⟨(some 20), .bslice 1 1 (.sl true []) [(0, (.c (.sl true [])))], none, none⟩,
   ⟨(some 21), .app 1 24 (.t 19) (.t 20), none, none⟩,
   ⟨(some 22), .nilc (.t 5), none, none⟩,
   ⟨(some 23), .fieldA 0 (.t 22), none, none⟩,
   ⟨(some 24), .fieldA 1 (.t 23), none, none⟩,
   ⟨none, .store 1 (.t 24) (.t 14), none, none⟩,
   ⟨(some 25), .nilc (.t 6), none, none⟩,
   ⟨(some 26), .fieldA 0 (.t 25), none, none⟩,
   ⟨(some 27), .fieldA 2 (.t 26), none, none⟩,
   ⟨none, .store 1 (.t 27) (.t 21), none, none⟩])
  (.seq (.reg none [
   ⟨(some 28), .mv (.t 0), none, none⟩,
   ⟨(some 29), .nilc (.t 28), none, none⟩,
   ⟨(some 30), .fieldA 0 (.t 29), none, none⟩,
   ⟨(some 31), .fieldA 1 (.t 30), none, none⟩,
   ⟨(some 32), .load none (.t 31), none, none⟩,
   ⟨(some 33), .len (.t 32), none, none⟩,
   ⟨(some 34), .bin .sub (.t 33) (.c (.v (.int .i64 1))), none, none⟩,
   ⟨(some 4), .mv (.t 34), none, none⟩])
  .ret)))
def c_nf_in (f_slices_Concat_Sint_int_ f_net_set : FuncId) : AC :=
  (.loop (.seq (.reg none [
     ⟨(some 11), .bin .lss (.t 10) (.t 9), none, none⟩])
    (.seq (.cond (.t 11) .skip (.exit 0))
    (.seq (.block 1 (.seq (.reg none [
      ⟨(some 12), .idxA 1 (.t 8) (.t 10), none, none⟩,
      ⟨(some 13), .load none (.t 12), none, none⟩,
      ⟨(some 7), .mv (.t 13), none, none⟩])
     (.reg (some []) [
      ⟨(some 14), .mv (.t 0), none, none⟩,
      ⟨(some 15), .nilc (.t 14), none, none⟩,
      ⟨(some 16), .fieldA 0 (.t 15), none, none⟩,
      ⟨(some 17), .fieldA 2 (.t 16), none, none⟩,
      ⟨(some 18), .load none (.t 17), none, none⟩,
      ⟨(some 19), .mv (.t 7), none, none⟩,
      ⟨(some 20), .mv (.t 0), none, none⟩,
      ⟨(some 21), .nilc (.t 20), none, none⟩,
      ⟨(some 22), .fieldA 0 (.t 21), none, none⟩,
      ⟨(some 23), .fieldA 2 (.t 22), none, none⟩,
      ⟨(some 24), .load none (.t 23), none, none⟩,
      ⟨(some 25), .mv (.t 7), none, none⟩,
      ⟨(some 26), .idxA 1 (.t 24) (.t 25), none, none⟩,
      ⟨(some 27), .load none (.t 26), none, none⟩,
      ⟨(some 28), .mv (.t 2), none, none⟩,
      ⟨(some 29), .bslice 1 2 (.sl true []) [(0, (.t 27)), (1, (.t 28))], none, none⟩,
      ⟨(some 30), .mv (.c .junk), none, (some ((.c (.clo f_slices_Concat_Sint_int_ [] [])), [(.t 29)]))⟩,
      ⟨(some 31), .mv (.c .junk), none, (some ((.c (.clo f_net_set [] [])), [(.t 30)]))⟩,
      ⟨(some 32), .idxA 1 (.t 18) (.t 19), none, none⟩,
      ⟨none, .store 1 (.t 32) (.t 31), none, none⟩])))
    (.reg none [
     ⟨(some 33), .bin .add (.t 10) (.c (.v (.int .i64 1))), none, none⟩,
     ⟨(some 10), .mv (.t 33), none, none⟩])))))
def c_net_maker_follow (f_slices_Concat_Sint_int_ f_net_set : FuncId) : AC :=
  (.seq (.reg none [
   ⟨(some 8), .mv (.t 1), none, none⟩,
   ⟨(some 9), .len (.t 8), none, none⟩,
   ⟨(some 10), .mv (.c (.v (.int .i64 0))), none, none⟩])
  (.block 0 (c_nf_in f_slices_Concat_Sint_int_ f_net_set)))
theorem state_ok {P : Program} (hm : P.follows .mixedOrders = true) {f : FuncId} (h : Is P f c_net_maker_state [4] 2) (sg : Int) (o : Bool) (b : List Int) (st : Gs) (hs : st.fo.length = st.by_.length) (hl : st.by_.length ≤ 100000) :
    CallM P f [encIs b] sg o st ⟨st.by_ ++ [b], st.fo ++ [[]]⟩ (encI st.by_.length) := by
  refine h.callB hm rfl ?_
  have ok1 : appOk 24 st.by_.length 1 := by unfold appOk; omega
  have ok2 : appOk 24 st.fo.length 1 := by unfold appOk; omega
  have hw := wrap_in (st.by_.length : Int) (by omega)
  simp [AWb_seq, Z0m, Z0n, Z0j, Z0k, Z0r, Z0l, Z0p, Z0q, Z0o, Z21, Z20, Z22, Z23, Z3d, Z3e, Z3a, vIdx, Z4x, Z4w, Z4y, vApp, Z4u, Z3u, Z11, Z10, Z0z, Z0x, Z0w, Z0y, Z17, Z16, Z15, Z13, Z12, Z14, Z2c, Z2d, Z2a, Z2n, Z31, Z30, Z07, Z08, Z06, Z01, Z02, Z00, Z04, Z05, Z03, Z1z, Z1y, Z46, Z48, Z47, Z45, Z1n, Z1o, Z1m, Z3n, Z3k, Z3m, Z3l, Z3o, Z1l, Z29, Z32, Z3x, Z1i, Z1j, Z1k, Z3v, Z3w, Z1g, Z28, Z1h, Z3i, Z3f, Z3h, Z3g, Z3j, Z41, Z40, Z0t, Z0u, Z0v, Z0s, Z1f, Z4c, Z4b, Z4d, Z4a, Z49, ex, Z43, Z42, ev_t, ev_c, Z27, Z26, Z4e, Z4f, Z2m, Z2l, Z2f, Z2j, Z2k, Z2g, Z2h, Z2i, putc, exBslice, lfill, exField, exIdxV, exIdxP, exBox, exAlloc, Z3b, Z3c, exStore, exFieldA, Z34, Z33, Z39, Z38, exPick, exUn, exBeq, exMM, exSeq, seqGo, exExt, binV, intOp, subc, Z4s, Z4r, Z4p, Z4q, Z4n, Z4l, Z4m, Z4o, Z4i, Z4j, Z4g, Z4t, S0, encI, encB, c_net_maker_state, mG, mCell, ok1, ok2, exNil, hw]
  refine ⟨by rintro j (⟨_, rfl⟩ | rfl) <;> simp, afOf [(4, encI st.by_.length)], ⟨10, gOf (mG sg true ⟨st.by_ ++ [b], st.fo ++ [[]]⟩ 0 3 4 ++ [])⟩, Abs.of [(0, 0), (3, 13), (4, 20)] [] (by omega) ⟨by simp, by simp⟩ ?_ ?_, by simp [afOf, encI], .of⟩
  · simp [RenL_snoc, RenL.cl, RenV.cl, Z2r, Z2o, Z2s, Z2t, Z2p, Z2v, Z2u, Z2q, Z2w, Z2x, Z1d, Z1c, Z1b, Z19, Z18, Z1a, Z1e, Z52, Z4v, Z4z, Z3y, Z51, Z50, Z3z, Z1p, Z1q, Z1x, Z1v, Z1w, Z1u, Z1t, Z1s, Z1r, Z44, Z43, Z42, Z4e, Z4f, Z22, Z23, Z3d, Z3e, Z27, Z26, vV_t, vV_f, vB_t, vB_f, encI, encB, encIs, mG, mCell]
    exact .loose (by simp)
  · simp [RenL_snoc, RenL.cl, RenV.cl, Z2r, Z2o, Z2s, Z2t, Z2p, Z2v, Z2u, Z2q, Z2w, Z2x, Z1d, Z1c, Z1b, Z19, Z18, Z1a, Z1e, Z52, Z4v, Z4z, Z3y, Z51, Z50, Z3z, Z1p, Z1q, Z1x, Z1v, Z1w, Z1u, Z1t, Z1s, Z1r, Z44, Z43, Z42, Z4e, Z4f, Z22, Z23, Z3d, Z3e, Z27, Z26, vV_t, vV_f, vB_t, vB_f, encI, encB]
abbrev HCat (P : Program) (f : FuncId) : Prop := ∀ a b : List Int, a.length + b.length ≤ 1000000 → PureC P f [.sl true [encIs a, encIs b]] (encIs (a ++ b))
abbrev HSetc (P : Program) (f : FuncId) : Prop := ∀ l : List Int, l.length ≤ 1000000 → PureC P f [encIs l] (encIs (setF l))
def nfI (ss : List Int) (k : Nat) (_ : Unit) : Prop := True
def nfA (ss be : List Int) (k : Nat) (_ : Unit) : List (Nat × AV) := [(0, .ptr 0 0 0), (2, encIs be), (8, encIs ss), (9, encI ss.length), (10, encI k)]
def nfG (sg : Int) (st : Gs) (ss be : List Int) (k : Nat) (_ : Unit) : List (Nat × Option Blk) := mG sg true ⟨st.by_, folF st.fo (ss.take k) be⟩ 0 1 2
theorem follow_ok {P : Program} (hm : P.follows .mixedOrders = true) {f fc fs : FuncId} (h : Is P f (c_net_maker_follow fc fs) [] 3) (hc : HCat P fc) (hset : HSetc P fs) (sg : Int) (ss be : List Int) (st : Gs) (hst : StN st)
    (hss : UpN st.by_.length ss) (hbe : UpN st.by_.length be) (hl : st.by_.length ≤ 100000) : CallM P f [encIs ss, encIs be] sg true st ⟨st.by_, folF st.fo ss be⟩ (.tup []) := by
  refine h.callB hm rfl ?_
  have hsl := hss.len
  have hbl := hbe.len
  simp [AWb_seq, Z0m, Z0n, Z0j, Z0k, Z0r, Z0l, Z0p, Z0q, Z0o, Z21, Z20, Z22, Z23, Z3d, Z3e, Z3a, vIdx, Z4x, Z4w, Z4y, vApp, Z4u, Z3u, Z11, Z10, Z0z, Z0x, Z0w, Z0y, Z17, Z16, Z15, Z13, Z12, Z14, Z2c, Z2d, Z2a, Z2n, Z31, Z30, Z07, Z08, Z06, Z01, Z02, Z00, Z04, Z05, Z03, Z1z, Z1y, Z46, Z48, Z47, Z45, Z1n, Z1o, Z1m, Z3n, Z3k, Z3m, Z3l, Z3o, Z1l, Z29, Z32, Z3x, Z1i, Z1j, Z1k, Z3v, Z3w, Z1g, Z28, Z1h, Z3i, Z3f, Z3h, Z3g, Z3j, Z41, Z40, Z0t, Z0u, Z0v, Z0s, Z1f, Z4c, Z4b, Z4d, Z4a, Z49, ex, Z43, Z42, ev_t, ev_c, Z27, Z26, Z4e, Z4f, Z2m, Z2l, Z2f, Z2j, Z2k, Z2g, Z2h, Z2i, putc, exBslice, lfill, exField, exIdxV, exIdxP, exBox, exAlloc, Z3b, Z3c, exStore, exFieldA, Z34, Z33, Z39, Z38, exPick, exUn, exBeq, exMM, exSeq, seqGo, exExt, binV, intOp, subc, Z4s, Z4r, Z4p, Z4q, Z4n, Z4l, Z4m, Z4o, Z4i, Z4j, Z4g, Z4t, S0, encI, encB, Z4k, Z2e, Z25, Z4h, Z2b, Z24, Z36, Z37, Z35, Z3s, Z3t, Z3r, Z3p, Z3q, idxT_Bs, c_net_maker_follow, mG, mCell, c_nf_in]
  refine AWb_for ss.length (nfI ss) (nfA ss be) 3 (nfG sg st ss be) () trivial ?_ ?_
  · refine Abs.of [(0, 0), (1, 1), (2, 2)] [] (by omega) ⟨by simp, by simp⟩ ?_ ?_
    · simp [RenL_snoc, RenL.cl, RenV.cl, Z2r, Z2o, Z2s, Z2t, Z2p, Z2v, Z2u, Z2q, Z2w, Z2x, Z1d, Z1c, Z1b, Z19, Z18, Z1a, Z1e, Z52, Z4v, Z4z, Z3y, Z51, Z50, Z3z, Z1p, Z1q, Z1x, Z1v, Z1w, Z1u, Z1t, Z1s, Z1r, Z44, Z43, Z42, Z4e, Z4f, Z22, Z23, Z3d, Z3e, Z27, Z26, vV_t, vV_f, vB_t, vB_f, encI, encB, nfG, mG, mCell, folF]
    · simp [RenL_snoc, RenL.cl, RenV.cl, Z2r, Z2o, Z2s, Z2t, Z2p, Z2v, Z2u, Z2q, Z2w, Z2x, Z1d, Z1c, Z1b, Z19, Z18, Z1a, Z1e, Z52, Z4v, Z4z, Z3y, Z51, Z50, Z3z, Z1p, Z1q, Z1x, Z1v, Z1w, Z1u, Z1t, Z1s, Z1r, Z44, Z43, Z42, Z4e, Z4f, Z22, Z23, Z3d, Z3e, Z27, Z26, vV_t, vV_f, vB_t, vB_f, encI, encB, nfA]
  · rintro k _ hk _
    by_cases hlt : k < ss.length
    · have hsk : ss[k]? = some ss[k] := List.getElem?_eq_getElem hlt
      have hsd : ss.getD k 0 = ss[k] := by rw [List.getD_eq_getElem?_getD, hsk]; rfl
      have hs0 := hss.1.2 _ (List.getElem_mem hlt)
      have hs1 := hss.2 _ (List.getElem_mem hlt)
      have hfl := folF_len (ss.take k) st.fo be
      have hlen := hst.len
      have hrow := getD_UpN (folF_N (ss.take k) st.fo be hst.rows hbe) (ss[k]).toNat
      have hrl := hrow.len
      have hcc := hc ((folF st.fo (ss.take k) be).getD (ss[k]).toNat []) be (by omega)
      have hss2 := hset ((folF st.fo (ss.take k) be).getD (ss[k]).toNat [] ++ be) (by rw [List.length_append]; omega)
      have htk : ss.take (k + 1) = ss.take k ++ [ss[k]] := by rw [List.take_add_one, hsk]; rfl
      have hfs := folF_snoc (ss.take k) st.fo ss[k] be
      rw [← htk] at hfs
      have hxl : (ss[k]).toNat < (folF st.fo (ss.take k) be).length := by omega
      have hxl2 : ss[k] < ((folF st.fo (ss.take k) be).length : Int) := by omega
      have hge : ((folF st.fo (ss.take k) be))[(ss[k]).toNat]? = some ((folF st.fo (ss.take k) be).getD (ss[k]).toNat []) := by
        rw [List.getD_eq_getElem?_getD, List.getElem?_eq_getElem hxl]; rfl
      have hgl : (folF st.fo (ss.take k) be)[(ss[k]).toNat] = (folF st.fo (ss.take k) be).getD (ss[k]).toNat [] := by
        rw [List.getD_eq_getElem?_getD, List.getElem?_eq_getElem hxl]; rfl
      have D1 := fun n' g' => CallD.cd (S := ⟨n', g'⟩) hcc (cl_cons (.sl _ _ (cl_cons (Z2s _) (cl_cons (Z2s _) cl_nil))) cl_nil) (Z2s _)
      have D2 := fun n' g' => CallD.cd (S := ⟨n', g'⟩) hss2 (cl_cons (Z2s _) cl_nil) (Z2s _)
      generalize hro : (folF st.fo (ss.take k) be).getD (ss[k]).toNat [] = row at *
      generalize hgx : ss[k] = x at *
      generalize hff : folF st.fo (ss.take k) be = fo at *
      simp [AWb_seq, Z0m, Z0n, Z0j, Z0k, Z0r, Z0l, Z0p, Z0q, Z0o, Z21, Z20, Z22, Z23, Z3d, Z3e, Z3a, vIdx, Z4x, Z4w, Z4y, vApp, Z4u, Z3u, Z11, Z10, Z0z, Z0x, Z0w, Z0y, Z17, Z16, Z15, Z13, Z12, Z14, Z2c, Z2d, Z2a, Z2n, Z31, Z30, Z07, Z08, Z06, Z01, Z02, Z00, Z04, Z05, Z03, Z1z, Z1y, Z46, Z48, Z47, Z45, Z1n, Z1o, Z1m, Z3n, Z3k, Z3m, Z3l, Z3o, Z1l, Z29, Z32, Z3x, Z1i, Z1j, Z1k, Z3v, Z3w, Z1g, Z28, Z1h, Z3i, Z3f, Z3h, Z3g, Z3j, Z41, Z40, Z0t, Z0u, Z0v, Z0s, Z1f, Z4c, Z4b, Z4d, Z4a, Z49, ex, Z43, Z42, ev_t, ev_c, Z27, Z26, Z4e, Z4f, Z2m, Z2l, Z2f, Z2j, Z2k, Z2g, Z2h, Z2i, putc, exBslice, lfill, exField, exIdxV, exIdxP, exBox, exAlloc, Z3b, Z3c, exStore, exFieldA, Z34, Z33, Z39, Z38, exPick, exUn, exBeq, exMM, exSeq, seqGo, exExt, binV, intOp, subc, Z4s, Z4r, Z4p, Z4q, Z4n, Z4l, Z4m, Z4o, Z4i, Z4j, Z4g, Z4t, S0, encI, encB, Z4k, Z2e, Z25, Z4h, Z2b, Z24, Z36, Z37, Z35, Z3s, Z3t, Z3r, Z3p, Z3q, idxT_Bs, nfA, nfG, mG, mCell, hlt, hgx, hff, exNil, hsd, hxl, hxl2, hs0, hge, hgl, vV_t, vB_t]
      refine ⟨_, ⟨_, D1 _ _⟩, _, ⟨_, D2 _ _⟩, ?_⟩
      simp [AWb_seq, Z0m, Z0n, Z0j, Z0k, Z0r, Z0l, Z0p, Z0q, Z0o, Z21, Z20, Z22, Z23, Z3d, Z3e, Z3a, vIdx, Z4x, Z4w, Z4y, vApp, Z4u, Z3u, Z11, Z10, Z0z, Z0x, Z0w, Z0y, Z17, Z16, Z15, Z13, Z12, Z14, Z2c, Z2d, Z2a, Z2n, Z31, Z30, Z07, Z08, Z06, Z01, Z02, Z00, Z04, Z05, Z03, Z1z, Z1y, Z46, Z48, Z47, Z45, Z1n, Z1o, Z1m, Z3n, Z3k, Z3m, Z3l, Z3o, Z1l, Z29, Z32, Z3x, Z1i, Z1j, Z1k, Z3v, Z3w, Z1g, Z28, Z1h, Z3i, Z3f, Z3h, Z3g, Z3j, Z41, Z40, Z0t, Z0u, Z0v, Z0s, Z1f, Z4c, Z4b, Z4d, Z4a, Z49, ex, Z43, Z42, ev_t, ev_c, Z27, Z26, Z4e, Z4f, Z2m, Z2l, Z2f, Z2j, Z2k, Z2g, Z2h, Z2i, putc, exBslice, lfill, exField, exIdxV, exIdxP, exBox, exAlloc, Z3b, Z3c, exStore, exFieldA, Z34, Z33, Z39, Z38, exPick, exUn, exBeq, exMM, exSeq, seqGo, exExt, binV, intOp, subc, Z4s, Z4r, Z4p, Z4q, Z4n, Z4l, Z4m, Z4o, Z4i, Z4j, Z4g, Z4t, S0, encI, encB, Z4k, Z2e, Z25, Z4h, Z2b, Z24, Z36, Z37, Z35, Z3s, Z3t, Z3r, Z3p, Z3q, idxT_Bs, vV_t, vB_t, Z2c, hxl]
      rw [wrap_in _ (by omega)]
      refine ⟨hlt, (), trivial, Abs.of [(0, 0), (1, 1), (2, 2)] [] (by omega) ⟨by simp, by simp⟩ ?_ ?_⟩
      · simp [RenL_snoc, RenL.cl, RenV.cl, Z2r, Z2o, Z2s, Z2t, Z2p, Z2v, Z2u, Z2q, Z2w, Z2x, Z1d, Z1c, Z1b, Z19, Z18, Z1a, Z1e, Z52, Z4v, Z4z, Z3y, Z51, Z50, Z3z, Z1p, Z1q, Z1x, Z1v, Z1w, Z1u, Z1t, Z1s, Z1r, Z44, Z43, Z42, Z4e, Z4f, Z22, Z23, Z3d, Z3e, Z27, Z26, vV_t, vV_f, vB_t, vB_f, encI, encB, nfG, mG, mCell, hfs]
        rw [← List.map_set]
        exact .cl (Z1a _)
      · simp [RenL_snoc, RenL.cl, RenV.cl, Z2r, Z2o, Z2s, Z2t, Z2p, Z2v, Z2u, Z2q, Z2w, Z2x, Z1d, Z1c, Z1b, Z19, Z18, Z1a, Z1e, Z52, Z4v, Z4z, Z3y, Z51, Z50, Z3z, Z1p, Z1q, Z1x, Z1v, Z1w, Z1u, Z1t, Z1s, Z1r, Z44, Z43, Z42, Z4e, Z4f, Z22, Z23, Z3d, Z3e, Z27, Z26, vV_t, vV_f, vB_t, vB_f, encI, encB, nfA]
    · have hke : k = ss.length := by omega
      subst hke
      simp [AWb_seq, Z0m, Z0n, Z0j, Z0k, Z0r, Z0l, Z0p, Z0q, Z0o, Z21, Z20, Z22, Z23, Z3d, Z3e, Z3a, vIdx, Z4x, Z4w, Z4y, vApp, Z4u, Z3u, Z11, Z10, Z0z, Z0x, Z0w, Z0y, Z17, Z16, Z15, Z13, Z12, Z14, Z2c, Z2d, Z2a, Z2n, Z31, Z30, Z07, Z08, Z06, Z01, Z02, Z00, Z04, Z05, Z03, Z1z, Z1y, Z46, Z48, Z47, Z45, Z1n, Z1o, Z1m, Z3n, Z3k, Z3m, Z3l, Z3o, Z1l, Z29, Z32, Z3x, Z1i, Z1j, Z1k, Z3v, Z3w, Z1g, Z28, Z1h, Z3i, Z3f, Z3h, Z3g, Z3j, Z41, Z40, Z0t, Z0u, Z0v, Z0s, Z1f, Z4c, Z4b, Z4d, Z4a, Z49, ex, Z43, Z42, ev_t, ev_c, Z27, Z26, Z4e, Z4f, Z2m, Z2l, Z2f, Z2j, Z2k, Z2g, Z2h, Z2i, putc, exBslice, lfill, exField, exIdxV, exIdxP, exBox, exAlloc, Z3b, Z3c, exStore, exFieldA, Z34, Z33, Z39, Z38, exPick, exUn, exBeq, exMM, exSeq, seqGo, exExt, binV, intOp, subc, Z4s, Z4r, Z4p, Z4q, Z4n, Z4l, Z4m, Z4o, Z4i, Z4j, Z4g, Z4t, S0, encI, encB, Z4k, Z2e, Z25, Z4h, Z2b, Z24, Z36, Z37, Z35, Z3s, Z3t, Z3r, Z3p, Z3q, idxT_Bs, nfA, nfG, mG, mCell]
      refine ⟨afOf [], ⟨10, gOf (mG sg true ⟨st.by_, folF st.fo ss be⟩ 0 3 4 ++ [])⟩, Abs.of [(0, 0), (3, 1), (4, 2)] [] (by omega) ⟨by simp, by simp⟩ ?_ ?_, .of⟩
      · simp [RenL_snoc, RenL.cl, RenV.cl, Z2r, Z2o, Z2s, Z2t, Z2p, Z2v, Z2u, Z2q, Z2w, Z2x, Z1d, Z1c, Z1b, Z19, Z18, Z1a, Z1e, Z52, Z4v, Z4z, Z3y, Z51, Z50, Z3z, Z1p, Z1q, Z1x, Z1v, Z1w, Z1u, Z1t, Z1s, Z1r, Z44, Z43, Z42, Z4e, Z4f, Z22, Z23, Z3d, Z3e, Z27, Z26, vV_t, vV_f, vB_t, vB_f, encI, encB, mG, mCell]
      · simp [RenL_snoc, RenL.cl, RenV.cl, Z2r, Z2o, Z2s, Z2t, Z2p, Z2v, Z2u, Z2q, Z2w, Z2x, Z1d, Z1c, Z1b, Z19, Z18, Z1a, Z1e, Z52, Z4v, Z4z, Z3y, Z51, Z50, Z3z, Z1p, Z1q, Z1x, Z1v, Z1w, Z1u, Z1t, Z1s, Z1r, Z44, Z43, Z42, Z4e, Z4f, Z22, Z23, Z3d, Z3e, Z27, Z26, vV_t, vV_f, vB_t, vB_f, encI, encB]
end Go.Rf

