import Derived.Test.YtidkjfaeolfcaaaGreatRfE6
import Derived.Test.YtidkjfaeolfcaaaGreatRfCat2
/- Own work: det.make1 and the closures that it is given. -/
set_option linter.unusedVariables false
set_option linter.unusedSimpArgs false
namespace Go.Rf
open Go.RowKit
def c_det_make1_2 : AC :=
  (.seq (.reg none [
   ⟨(some 6), .mv (.c (.sl true [])), none, none⟩])
  (.seq (.reg none [
   ⟨(some 7), .load none (.t 2), none, none⟩,
   ⟨(some 8), .load none (.t 3), none, none⟩,
   ⟨(some 9), .mv (.t 0), none, none⟩,
   ⟨(some 10), .mv (.t 1), none, none⟩,
   ⟨(some 11), .mv (.c .junk), none, (some ((.t 7), [(.t 8), (.t 9), (.t 10)]))⟩,
   ⟨(some 6), .mv (.t 11), none, none⟩])
  .ret))
def c_det_Tails_1 (f_det_maker_step f_slices_Concat_Sint_int_ : FuncId) : AC :=
  (.seq (.reg none [
   ⟨(some 6), .mv (.c (.sl true [])), none, none⟩])
  (.seq (.reg none [
   ⟨(some 7), .bslice 1 1 (.v (.int .i64 0)) [(0, (.c (.v (.int .i64 0))))], none, none⟩,
   ⟨(some 8), .mv (.t 0), none, none⟩,
   ⟨(some 9), .mv (.t 1), none, none⟩,
   ⟨(some 10), .mv (.t 2), none, none⟩,
   ⟨(some 11), .mv (.c .junk), none, (some ((.c (.clo f_det_maker_step [] [])), [(.t 8), (.t 9), (.t 10)]))⟩,
   ⟨(some 12), .bslice 1 2 (.sl true []) [(0, (.t 7)), (1, (.t 11))], none, none⟩,
   ⟨(some 13), .mv (.c .junk), none, (some ((.c (.clo f_slices_Concat_Sint_int_ [] [])), [(.t 12)]))⟩,
   ⟨(some 6), .mv (.t 13), none, none⟩])
  .ret))
def c_det_Heads_1 (f_det_maker_ends f_det_maker_step : FuncId) : AC :=
  (.seq (.reg none [
   ⟨(some 6), .mv (.c (.sl true [])), none, none⟩])
  (.seq (.seq (.reg none [
   ⟨(some 7), .mv (.t 0), none, none⟩,
   ⟨(some 8), .mv (.t 1), none, none⟩,
   ⟨(some 9), .mv (.c .junk), none, (some ((.c (.clo f_det_maker_ends [] [])), [(.t 7), (.t 8)]))⟩])
  (.cond (.t 9) (.seq (.reg none [
    ⟨(some 10), .mv (.t 1), none, none⟩,
    ⟨(some 6), .mv (.t 10), none, none⟩])
   .ret) .skip))
  (.seq (.reg none [
   ⟨(some 11), .mv (.t 0), none, none⟩,
   ⟨(some 12), .mv (.t 1), none, none⟩,
   ⟨(some 13), .mv (.t 2), none, none⟩,
   ⟨(some 14), .mv (.c .junk), none, (some ((.c (.clo f_det_maker_step [] [])), [(.t 11), (.t 12), (.t 13)]))⟩,
   ⟨(some 6), .mv (.t 14), none, none⟩])
  .ret)))
/-- What is asked of what stands behind a set. -/
def HB (P : Program) (fb : FuncId) (n : Net) (kd : Kd) : Prop := ∀ (S : St) (id km : Nat) (most : Int) (ss : List (List Int)) (v : AV) (set : List Int) (s : Int) (K : AV → St → Prop), MkS S id km n most ss v → Val n set →
  (∀ m, S.n ≤ m → K (encIs (bhS kd n set s)) ⟨m, S.g⟩) → CallR P fb [.ptr id 0 0, encIs set, encI s] S K
def HStp (P : Program) (f : FuncId) (n : Net) : Prop := ∀ set s, Val n set → PureN P f [pNet n, encIs set, encI s] (encIs (stepN n set s))
def HEnds (P : Program) (f : FuncId) (n : Net) : Prop := ∀ set, Val n set → PureC P f [pNet n, encIs set] (encB (endsB n set))
theorem MkS.pre {S : St} {id km : Nat} {n : Net} {most : Int} {ss : List (List Int)} {v : AV} (M : MkS S id km n most ss v) {g : Nat → Option Blk} (hg : g id = S.g id) : Fz g (.ptr id 0 0) (pNet n) :=
  .pre id 7 [encI n.signs, encIss n.by_, encIss n.follow, encIs n.last] [encI most, .mp km, v] (by rw [hg]; exact M.g) (by
    intro y hy
    simp only [List.mem_cons, List.not_mem_nil, or_false] at hy
    rcases hy with rfl | rfl | rfl | rfl
    · exact Z2r _
    · exact Z2t _
    · exact Z2t _
    · exact Z2s _)
theorem HB.whole {P : Program} {f : FuncId} {n : Net} (h : HStp P f n) : HB P f n .whole := by
  intro S id km most ss v set s K M hv hk
  have hz : FzL S.g [.ptr id 0 0, encIs set, encI s] [pNet n, encIs set, encI s] := FzL.cons (M.pre rfl) (FzL.cons (.closed _ (Z2s _)) (FzL.cons (.closed _ (Z2r _)) FzL.nil))
  exact CallR.fresh_gen (h set s hv) S.g (fun _ _ e => e) hz.1 hz.2 (Z2s _) (hk S.n (Nat.le_refl _))
theorem HB.tails {P : Program} (hm : P.follows .mixedOrders = true) {f fs fc : FuncId} {n : Net} (R : RightN n) (h : HStp P fs n) (hf : Is P f (c_det_Tails_1 fs fc) [6] 3)
    (hc : ∀ l : List Int, l.length ≤ 1000 → PureC P fc [.sl true [.sl true [encI 0], encIs l]] (encIs (0 :: l))) : HB P f n .tails := by
  intro S id km most ss v set s K M hv hk
  have hb := HB.whole h
  refine hf.callR hm rfl ?_
  simp [Z0h, Z0c, Z0d, Z09, Z0a, Z0i, Z0b, Z0f, Z0g, Z2z, Z2y, Z07, Z08, Z06, Z01, Z02, Z00, Z04, Z05, Z03, Z1z, Z1y, Z46, Z48, Z47, Z45, Z1n, Z1o, Z1m, Z3n, Z3k, Z3m, Z3l, Z3o, Z1l, Z29, Z32, Z3x, Z1i, Z1j, Z1k, Z3v, Z3w, Z1g, Z28, Z1h, Z3i, Z3f, Z3h, Z3g, Z3j, Z41, Z40, Z0t, Z0u, Z0v, Z0s, Z1f, Z4c, Z4b, Z4d, Z4a, Z49, ex, Z43, Z42, ev_t, ev_c, Z27, Z26, Z4e, Z4f, Z2m, Z2l, Z2f, Z2j, Z2k, Z2g, Z2h, Z2i, putc, exBslice, lfill, exField, exIdxV, exIdxP, exBox, exAlloc, exLoad, exStore, exFieldA, exIdxA, exLen, exPick, exUn, exBeq, exMM, exSeq, seqGo, exExt, binV, intOp, subc, AV.solid, S0, encI, encB, c_det_Tails_1]
  refine hb _ id km most ss v set s _ ⟨M.g, M.m, M.vec, M.ne, M.hv, Nat.lt_of_lt_of_le M.lid (by show S.n ≤ S.n + 1 + 8; omega), Nat.lt_of_lt_of_le M.lkm (by show S.n ≤ S.n + 1 + 8; omega), fun i hi => Nat.lt_of_lt_of_le (M.lv i hi) (by show S.n ≤ S.n + 1 + 8; omega)⟩ hv fun m hm2 => ?_
  have h1 : (encIs (bhS .whole n set s)).cells = [encIs (bhS .whole n set s)] := rfl
  have h2 : (encIs (bhS .whole n set s)).solid = true := rfl
  simp only [AV.solid] at h2
  simp [Z0h, Z0c, Z0d, Z09, Z0a, Z0i, Z0b, Z0f, Z0g, Z2z, Z2y, Z07, Z08, Z06, Z01, Z02, Z00, Z04, Z05, Z03, Z1z, Z1y, Z46, Z48, Z47, Z45, Z1n, Z1o, Z1m, Z3n, Z3k, Z3m, Z3l, Z3o, Z1l, Z29, Z32, Z3x, Z1i, Z1j, Z1k, Z3v, Z3w, Z1g, Z28, Z1h, Z3i, Z3f, Z3h, Z3g, Z3j, Z41, Z40, Z0t, Z0u, Z0v, Z0s, Z1f, Z4c, Z4b, Z4d, Z4a, Z49, ex, Z43, Z42, ev_t, ev_c, Z27, Z26, Z4e, Z4f, Z2m, Z2l, Z2f, Z2j, Z2k, Z2g, Z2h, Z2i, putc, exBslice, lfill, exField, exIdxV, exIdxP, exBox, exAlloc, exLoad, exStore, exFieldA, exIdxA, exLen, exPick, exUn, exBeq, exMM, exSeq, seqGo, exExt, binV, intOp, subc, AV.solid, S0, encI, encB, h1, h2]
  refine CallR.pure (hc _ ?_) (cl_cons (.sl _ _ (by
    intro y hy
    simp only [List.mem_cons, List.not_mem_nil, or_false] at hy
    rcases hy with rfl | rfl
    · exact .sl _ _ (by intro y hy; simp only [List.mem_cons, List.not_mem_nil, or_false] at hy; subst hy; exact Z2r _)
    · exact Z2s _)) cl_nil) (Z2s _) ?_
  · have := (step_val R set s).2
    show (stepN n set s).length ≤ 1000
    omega
  · simp [Z0h, Z0c, Z0d, Z09, Z0a, Z0i, Z0b, Z0f, Z0g, Z2z, Z2y, Z07, Z08, Z06, Z01, Z02, Z00, Z04, Z05, Z03, Z1z, Z1y, Z46, Z48, Z47, Z45, Z1n, Z1o, Z1m, Z3n, Z3k, Z3m, Z3l, Z3o, Z1l, Z29, Z32, Z3x, Z1i, Z1j, Z1k, Z3v, Z3w, Z1g, Z28, Z1h, Z3i, Z3f, Z3h, Z3g, Z3j, Z41, Z40, Z0t, Z0u, Z0v, Z0s, Z1f, Z4c, Z4b, Z4d, Z4a, Z49, ex, Z43, Z42, ev_t, ev_c, Z27, Z26, Z4e, Z4f, Z2m, Z2l, Z2f, Z2j, Z2k, Z2g, Z2h, Z2i, putc, exBslice, lfill, exField, exIdxV, exIdxP, exBox, exAlloc, exLoad, exStore, exFieldA, exIdxA, exLen, exPick, exUn, exBeq, exMM, exSeq, seqGo, exExt, binV, intOp, subc, AV.solid, S0, encI, encB]
    exact hk _ (by simp only at hm2; omega)
theorem HB.heads {P : Program} (hm : P.follows .mixedOrders = true) {f fs fe : FuncId} {n : Net} (h : HStp P fs n) (he : HEnds P fe n) (hf : Is P f (c_det_Heads_1 fe fs) [6] 3) : HB P f n .heads := by
  intro S id km most ss v set s K M hv hk
  have hb := HB.whole h
  have hMm : ∀ m, S.n ≤ m → MkS ⟨m, S.g⟩ id km n most ss v := fun m hm2 => ⟨M.g, M.m, M.vec, M.ne, M.hv, Nat.lt_of_lt_of_le M.lid hm2, Nat.lt_of_lt_of_le M.lkm hm2, fun i hi => Nat.lt_of_lt_of_le (M.lv i hi) hm2⟩
  refine hf.callR hm rfl ?_
  simp [Z0h, Z0c, Z0d, Z09, Z0a, Z0i, Z0b, Z0f, Z0g, Z2z, Z2y, Z07, Z08, Z06, Z01, Z02, Z00, Z04, Z05, Z03, Z1z, Z1y, Z46, Z48, Z47, Z45, Z1n, Z1o, Z1m, Z3n, Z3k, Z3m, Z3l, Z3o, Z1l, Z29, Z32, Z3x, Z1i, Z1j, Z1k, Z3v, Z3w, Z1g, Z28, Z1h, Z3i, Z3f, Z3h, Z3g, Z3j, Z41, Z40, Z0t, Z0u, Z0v, Z0s, Z1f, Z4c, Z4b, Z4d, Z4a, Z49, ex, Z43, Z42, ev_t, ev_c, Z27, Z26, Z4e, Z4f, Z2m, Z2l, Z2f, Z2j, Z2k, Z2g, Z2h, Z2i, putc, exBslice, lfill, exField, exIdxV, exIdxP, exBox, exAlloc, exLoad, exStore, exFieldA, exIdxA, exLen, exPick, exUn, exBeq, exMM, exSeq, seqGo, exExt, binV, intOp, subc, AV.solid, S0, encI, encB, c_det_Heads_1]
  refine CallR.looks (S := ⟨S.n + 1 + 3, S.g⟩) (he set hv) (FzL.cons (M.pre rfl) (FzL.cons (.closed _ (Z2s _)) FzL.nil)) (plain_B _) ?_
  cases hq : endsB n set with
  | true =>
    simp [Z0h, Z0c, Z0d, Z09, Z0a, Z0i, Z0b, Z0f, Z0g, Z2z, Z2y, Z07, Z08, Z06, Z01, Z02, Z00, Z04, Z05, Z03, Z1z, Z1y, Z46, Z48, Z47, Z45, Z1n, Z1o, Z1m, Z3n, Z3k, Z3m, Z3l, Z3o, Z1l, Z29, Z32, Z3x, Z1i, Z1j, Z1k, Z3v, Z3w, Z1g, Z28, Z1h, Z3i, Z3f, Z3h, Z3g, Z3j, Z41, Z40, Z0t, Z0u, Z0v, Z0s, Z1f, Z4c, Z4b, Z4d, Z4a, Z49, ex, Z43, Z42, ev_t, ev_c, Z27, Z26, Z4e, Z4f, Z2m, Z2l, Z2f, Z2j, Z2k, Z2g, Z2h, Z2i, putc, exBslice, lfill, exField, exIdxV, exIdxP, exBox, exAlloc, exLoad, exStore, exFieldA, exIdxA, exLen, exPick, exUn, exBeq, exMM, exSeq, seqGo, exExt, binV, intOp, subc, AV.solid, S0, encI, encB]
    have := hk (S.n + 1 + 3 + 2) (by omega)
    simp only [bhS, hq, if_true] at this
    exact this
  | false =>
    simp [Z0h, Z0c, Z0d, Z09, Z0a, Z0i, Z0b, Z0f, Z0g, Z2z, Z2y, Z07, Z08, Z06, Z01, Z02, Z00, Z04, Z05, Z03, Z1z, Z1y, Z46, Z48, Z47, Z45, Z1n, Z1o, Z1m, Z3n, Z3k, Z3m, Z3l, Z3o, Z1l, Z29, Z32, Z3x, Z1i, Z1j, Z1k, Z3v, Z3w, Z1g, Z28, Z1h, Z3i, Z3f, Z3h, Z3g, Z3j, Z41, Z40, Z0t, Z0u, Z0v, Z0s, Z1f, Z4c, Z4b, Z4d, Z4a, Z49, ex, Z43, Z42, ev_t, ev_c, Z27, Z26, Z4e, Z4f, Z2m, Z2l, Z2f, Z2j, Z2k, Z2g, Z2h, Z2i, putc, exBslice, lfill, exField, exIdxV, exIdxP, exBox, exAlloc, exLoad, exStore, exFieldA, exIdxA, exLen, exPick, exUn, exBeq, exMM, exSeq, seqGo, exExt, binV, intOp, subc, AV.solid, S0, encI, encB]
    refine hb _ id km most ss v set s _ (hMm _ (by omega)) hv fun m hm2 => ?_
    simp [Z0h, Z0c, Z0d, Z09, Z0a, Z0i, Z0b, Z0f, Z0g, Z2z, Z2y, Z07, Z08, Z06, Z01, Z02, Z00, Z04, Z05, Z03, Z1z, Z1y, Z46, Z48, Z47, Z45, Z1n, Z1o, Z1m, Z3n, Z3k, Z3m, Z3l, Z3o, Z1l, Z29, Z32, Z3x, Z1i, Z1j, Z1k, Z3v, Z3w, Z1g, Z28, Z1h, Z3i, Z3f, Z3h, Z3g, Z3j, Z41, Z40, Z0t, Z0u, Z0v, Z0s, Z1f, Z4c, Z4b, Z4d, Z4a, Z49, ex, Z43, Z42, ev_t, ev_c, Z27, Z26, Z4e, Z4f, Z2m, Z2l, Z2f, Z2j, Z2k, Z2g, Z2h, Z2i, putc, exBslice, lfill, exField, exIdxV, exIdxP, exBox, exAlloc, exLoad, exStore, exFieldA, exIdxA, exLen, exPick, exUn, exBeq, exMM, exSeq, seqGo, exExt, binV, intOp, subc, AV.solid, S0, encI, encB]
    have := hk m (by simp only at hm2; omega)
    simp only [bhS, hq, Bool.false_eq_true, if_false] at this
    exact this
/-- The closure over what stands behind a set. -/
theorem HB.clo {P : Program} (hm : P.follows .mixedOrders = true) {f fb : FuncId} {n : Net} {kd : Kd} (h : HB P fb n kd) (hf : Is P f c_det_make1_2 [6] 4) {S00 : St} {id km k5 k8 : Nat} {most : Int} (h5 : S00.g k5 = some (.arr 1 [.clo fb [] []])) (h8 : S00.g k8 = some (.arr 1 [.ptr id 0 0]))
    (l5 : k5 < S00.n) (l8 : k8 < S00.n) (n5 : k5 ≠ id ∧ k5 ≠ km) (n8 : k8 ≠ id ∧ k8 ≠ km) : HBeh P f [.ptr k5 0 0, .ptr k8 0 0] S00 id km n most kd := by
  intro S ss v set s K M hold hv hk
  have g5 : S.g k5 = some (.arr 1 [.clo fb [] []]) := (hold.2 k5 l5 n5.1 n5.2).trans h5
  have g8 : S.g k8 = some (.arr 1 [.ptr id 0 0]) := (hold.2 k8 l8 n8.1 n8.2).trans h8
  have hMm : ∀ m, S.n ≤ m → MkS ⟨m, S.g⟩ id km n most ss v := fun m hm2 => ⟨M.g, M.m, M.vec, M.ne, M.hv, Nat.lt_of_lt_of_le M.lid hm2, Nat.lt_of_lt_of_le M.lkm hm2, fun i hi => Nat.lt_of_lt_of_le (M.lv i hi) hm2⟩
  refine hf.callR hm rfl ?_
  simp [Z0h, Z0c, Z0d, Z09, Z0a, Z0i, Z0b, Z0f, Z0g, Z2z, Z2y, Z07, Z08, Z06, Z01, Z02, Z00, Z04, Z05, Z03, Z1z, Z1y, Z46, Z48, Z47, Z45, Z1n, Z1o, Z1m, Z3n, Z3k, Z3m, Z3l, Z3o, Z1l, Z29, Z32, Z3x, Z1i, Z1j, Z1k, Z3v, Z3w, Z1g, Z28, Z1h, Z3i, Z3f, Z3h, Z3g, Z3j, Z41, Z40, Z0t, Z0u, Z0v, Z0s, Z1f, Z4c, Z4b, Z4d, Z4a, Z49, ex, Z43, Z42, ev_t, ev_c, Z27, Z26, Z4e, Z4f, Z2m, Z2l, Z2f, Z2j, Z2k, Z2g, Z2h, Z2i, putc, exBslice, lfill, exField, exIdxV, exIdxP, exBox, exAlloc, exLoad, exStore, exFieldA, exIdxA, exLen, exPick, exUn, exBeq, exMM, exSeq, seqGo, exExt, binV, intOp, subc, AV.solid, S0, encI, encB, c_det_make1_2, g5, g8]
  refine h _ id km most ss v set s _ (hMm _ (by omega)) hv fun m hm2 => ?_
  simp [Z0h, Z0c, Z0d, Z09, Z0a, Z0i, Z0b, Z0f, Z0g, Z2z, Z2y, Z07, Z08, Z06, Z01, Z02, Z00, Z04, Z05, Z03, Z1z, Z1y, Z46, Z48, Z47, Z45, Z1n, Z1o, Z1m, Z3n, Z3k, Z3m, Z3l, Z3o, Z1l, Z29, Z32, Z3x, Z1i, Z1j, Z1k, Z3v, Z3w, Z1g, Z28, Z1h, Z3i, Z3f, Z3h, Z3g, Z3j, Z41, Z40, Z0t, Z0u, Z0v, Z0s, Z1f, Z4c, Z4b, Z4d, Z4a, Z49, ex, Z43, Z42, ev_t, ev_c, Z27, Z26, Z4e, Z4f, Z2m, Z2l, Z2f, Z2j, Z2k, Z2g, Z2h, Z2i, putc, exBslice, lfill, exField, exIdxV, exIdxP, exBox, exAlloc, exLoad, exStore, exFieldA, exIdxA, exLen, exPick, exUn, exBeq, exMM, exSeq, seqGo, exExt, binV, intOp, subc, AV.solid, S0, encI, encB]
  exact hk m (by simp only at hm2; omega)
end Go.Rf


/- Own work: det.Whole, det.Tails, det.Heads. -/
set_option linter.unusedVariables false
set_option linter.unusedSimpArgs false
namespace Go.Rf
open Go.RowKit
theorem PureN.pure {P : Program} {f : FuncId} {args : List AV} {r : AV} (h : PureN P f args r) (ha : ∀ x ∈ args, Closed x) (hr : Closed r) : PureC P f args r :=
  .of_callR (CallR.fresh_gen h (fun _ => none) (fun _ _ e => by cases e) rfl (fun j h1 h2 => .closed _ (ha _ (List.getElem_mem h1))) hr (.closed _ hr))
end Go.Rf

