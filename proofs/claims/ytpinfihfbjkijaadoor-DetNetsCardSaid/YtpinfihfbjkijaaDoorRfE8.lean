import Derived.Test.YtpinfihfbjkijaaDoorRfE6
import Derived.Test.YtpinfihfbjkijaaDoorRfCat2
/- Own work: det.make1 and the closures that it is given. -/
set_option linter.unusedVariables false
set_option linter.unusedSimpArgs false
namespace Go.Rf
open Go.RowKit
def c_m1_r (f_det_make1_2 f_det_maker_all : FuncId) : AC :=
  (.seq (.reg none [
   ⟨(some 22), .load (some 4) (.t 3), none, none⟩,
   ⟨(some 23), .mv (.t 1), none, none⟩,
   ⟨(some 24), .mmk, none, none⟩,
   ⟨(some 25), .build (.agg [(.v (.int .i64 0)), (.sl true []), (.sl true []), (.sl true []), (.v (.int .i64 0)), (.v (.map none)), (.sl true [])]) [(0, 4), (4, 1), (5, 1)] [(0, (.t 22)), (1, (.t 23)), (2, (.t 24))], none, none⟩,
   ⟨(some 26), .box 7 (.t 25), none, none⟩,
   ⟨(some 8), .alloc (.v (.pointer none)) 1, none, none⟩,
   ⟨none, .store 1 (.t 8) (.t 26), none, none⟩])
  (.seq (.regX [
   ⟨(some 27), .load none (.t 8), none, none⟩,
   ⟨(some 28), .mkf f_det_make1_2 [] [(.t 5), (.t 8)], none, none⟩,
   ⟨(some 29), .mv (.c .junk), none, (some ((.c (.clo f_det_maker_all [] [])), [(.t 27), (.t 28)]))⟩,
   ⟨none, .store 3 (.t 6) (.t 29), none, none⟩,
   ⟨none, .store 1 (.t 7) (.c (.v (.int .i64 0))), none, none⟩] none)
  .ret))
def c_m1_g (f_net_Right : FuncId) : AC :=
  (.seq (.regX [
   ⟨(some 9), .load (some 4) (.t 3), none, none⟩,
   ⟨(some 10), .mv (.c .junk), none, (some ((.c (.clo f_net_Right [] [])), [(.t 9)]))⟩,
   ⟨(some 11), .un .not (.t 10), none, none⟩,
   ⟨(some 12), .mv (.t 11), none, none⟩,
   ⟨(some 13), .mv (.t 1), (some (12, false)), none⟩,
   ⟨(some 14), .bin .lss (.t 13) (.c (.v (.int .i64 1))), (some (12, false)), none⟩,
   ⟨(some 15), .pick (.t 12) (.c (.v (.bool true))) (.t 14), none, none⟩,
   ⟨(some 16), .mv (.t 15), none, none⟩,
   ⟨(some 17), .mv (.t 1), (some (16, false)), none⟩,
   ⟨(some 18), .bin .gtr (.t 17) (.c (.v (.int .i64 3000))), (some (16, false)), none⟩,
   ⟨(some 19), .pick (.t 16) (.c (.v (.bool true))) (.t 18), none, none⟩] none)
  (.cond (.t 19) (.seq (.reg none [
    ⟨(some 20), .build (.agg [(.v (.int .i64 0)), (.sl true []), (.sl true [])]) [] [], none, none⟩,
    ⟨none, .store 3 (.t 6) (.t 20), none, none⟩,
    ⟨none, .store 1 (.t 7) (.c (.v (.int .i64 1))), none, none⟩])
   .ret) .skip))
def c_m1_0 : AC :=
  (.reg none [
   ⟨(some 3), .box 4 (.t 0), none, none⟩,
   ⟨(some 5), .box 1 (.t 2), none, none⟩,
   ⟨(some 6), .alloc (.agg [(.v (.int .i64 0)), (.sl true []), (.sl true [])]) 3, none, none⟩,
   ⟨(some 7), .alloc (.v (.int .i64 0)) 1, none, none⟩])
def c_m11_r (f_T : FuncId) : AC :=
  (.seq (.reg none [
   ⟨(some 7), .mv (.t 2), none, none⟩,
   ⟨(some 8), .tas f_T (.agg []) (.t 7), none, none⟩,
   ⟨(some 6), .mv (.t 8), none, none⟩,
   ⟨(some 9), .ext 0 (.t 6), none, none⟩,
   ⟨(some 10), .ext 1 (.t 6), none, none⟩,
   ⟨(some 3), .alloc (.agg []) 0, none, none⟩,
   ⟨none, .store 0 (.t 3) (.t 9), none, none⟩,
   ⟨(some 4), .mv (.t 10), none, none⟩])
  (.seq (.reg none [
   ⟨(some 11), .mv (.t 4), none, none⟩])
  (.cond (.t 11) (.reg none [
    ⟨(some 12), .build (.agg [(.v (.int .i64 0)), (.sl true []), (.sl true [])]) [] [], none, none⟩,
    ⟨none, .store 3 (.t 0) (.t 12), none, none⟩,
    ⟨none, .store 1 (.t 1) (.c (.v (.int .i64 13))), none, none⟩]) (.seq (.reg none [
    ⟨(some 13), .mv (.t 2), none, none⟩,
    ⟨(some 14), .inil true (.t 13), none, none⟩])
   (.cond (.t 14) .bad .skip)))))
def c_det_make1_2 : AC :=
  (.seq (.reg none [
   ⟨(some 6), .mv (.c (.sl true [])), none, none⟩])
  (.seq (.reg none [
   ⟨(some 7), .load none (.t 2), none, none⟩,
   ⟨(some 8), .load none (.t 3), none, none⟩,
   ⟨(some 9), .mv (.t 0), none, none⟩,
   ⟨(some 10), .mv (.t 1), none, none⟩,
   ⟨(some 11), .mv (.c .junk), none, (some ((.t 7), [(.t 8), (.t 9), (.t 10)]))⟩,
   ⟨(some 6), .mv (.t 11), none, none⟩])
  .ret))
def c_det_Tails_1 (f_det_maker_step f_slices_Concat_Sint_int_ : FuncId) : AC :=
  (.seq (.reg none [
   ⟨(some 6), .mv (.c (.sl true [])), none, none⟩])
  (.seq (.reg none [
   ⟨(some 7), .bslice 1 1 (.v (.int .i64 0)) [(0, (.c (.v (.int .i64 0))))], none, none⟩,
   ⟨(some 8), .mv (.t 0), none, none⟩,
   ⟨(some 9), .mv (.t 1), none, none⟩,
   ⟨(some 10), .mv (.t 2), none, none⟩,
   ⟨(some 11), .mv (.c .junk), none, (some ((.c (.clo f_det_maker_step [] [])), [(.t 8), (.t 9), (.t 10)]))⟩,
   ⟨(some 12), .bslice 1 2 (.sl true []) [(0, (.t 7)), (1, (.t 11))], none, none⟩,
   ⟨(some 13), .mv (.c .junk), none, (some ((.c (.clo f_slices_Concat_Sint_int_ [] [])), [(.t 12)]))⟩,
   ⟨(some 6), .mv (.t 13), none, none⟩])
  .ret))
def c_det_Heads_1 (f_det_maker_ends f_det_maker_step : FuncId) : AC :=
  (.seq (.reg none [
   ⟨(some 6), .mv (.c (.sl true [])), none, none⟩])
  (.seq (.seq (.reg none [
   ⟨(some 7), .mv (.t 0), none, none⟩,
   ⟨(some 8), .mv (.t 1), none, none⟩,
   ⟨(some 9), .mv (.c .junk), none, (some ((.c (.clo f_det_maker_ends [] [])), [(.t 7), (.t 8)]))⟩])
  (.cond (.t 9) (.seq (.reg none [
    ⟨(some 10), .mv (.t 1), none, none⟩,
    ⟨(some 6), .mv (.t 10), none, none⟩])
   .ret) .skip))
  (.seq (.reg none [
   ⟨(some 11), .mv (.t 0), none, none⟩,
   ⟨(some 12), .mv (.t 1), none, none⟩,
   ⟨(some 13), .mv (.t 2), none, none⟩,
   ⟨(some 14), .mv (.c .junk), none, (some ((.c (.clo f_det_maker_step [] [])), [(.t 11), (.t 12), (.t 13)]))⟩,
   ⟨(some 6), .mv (.t 14), none, none⟩])
  .ret)))
/-- What is asked of what stands behind a set. -/
def HB (P : Program) (fb : FuncId) (n : Net) (kd : Kd) : Prop := ∀ (S : St) (id km : Nat) (most : Int) (ss : List (List Int)) (v : AV) (set : List Int) (s : Int) (K : AV → St → Prop), MkS S id km n most ss v → Val n set →
  (∀ m, S.n ≤ m → K (encIs (bhS kd n set s)) ⟨m, S.g⟩) → CallR P fb [.ptr id 0 0, encIs set, encI s] S K
def HStp (P : Program) (f : FuncId) (n : Net) : Prop := ∀ set s, Val n set → PureN P f [pNet n, encIs set, encI s] (encIs (stepN n set s))
def HEnds (P : Program) (f : FuncId) (n : Net) : Prop := ∀ set, Val n set → PureC P f [pNet n, encIs set] (encB (endsB n set))
theorem MkS.pre {S : St} {id km : Nat} {n : Net} {most : Int} {ss : List (List Int)} {v : AV} (M : MkS S id km n most ss v) {g : Nat → Option Blk} (hg : g id = S.g id) : Fz g (.ptr id 0 0) (pNet n) :=
  .pre id 7 [encI n.signs, encIss n.by_, encIss n.follow, encIs n.last] [encI most, .mp km, v] (by rw [hg]; exact M.g) (by
    intro y hy
    simp only [List.mem_cons, List.not_mem_nil, or_false] at hy
    rcases hy with rfl | rfl | rfl | rfl
    · exact Z32 _
    · exact Z34 _
    · exact Z34 _
    · exact Z33 _)
theorem HB.whole {P : Program} {f : FuncId} {n : Net} (h : HStp P f n) : HB P f n .whole := by
  intro S id km most ss v set s K M hv hk
  have hz : FzL S.g [.ptr id 0 0, encIs set, encI s] [pNet n, encIs set, encI s] := FzL.cons (M.pre rfl) (FzL.cons (.closed _ (Z33 _)) (FzL.cons (.closed _ (Z32 _)) FzL.nil))
  exact CallR.fresh_gen (h set s hv) S.g (fun _ _ e => e) hz.1 hz.2 (Z33 _) (hk S.n (Nat.le_refl _))
theorem HB.tails {P : Program} (hm : P.follows .mixedOrders = true) {f fs fc : FuncId} {n : Net} (R : RightN n) (h : HStp P fs n) (hf : Is P f (c_det_Tails_1 fs fc) [6] 3)
    (hc : ∀ l : List Int, l.length ≤ 1000 → PureC P fc [.sl true [.sl true [encI 0], encIs l]] (encIs (0 :: l))) : HB P f n .tails := by
  intro S id km most ss v set s K M hv hk
  have hb := HB.whole h
  refine hf.callR hm rfl ?_
  simp [Z0j, Z0e, Z0f, Z0b, Z0c, Z0k, Z0d, Z0h, Z0i, Z3a, Z39, Z08, Z0a, Z07, Z01, Z03, Z00, Z05, Z06, Z04, Z26, Z25, Z4q, Z4s, Z4r, Z4p, Z1u, Z1v, Z1t, Z40, Z3x, Z3z, Z3y, Z41, Z1s, Z2j, Z3d, Z4f, Z1k, Z1l, Z1m, Z4d, Z4e, Z1i, Z2i, Z1j, Z3v, Z3s, Z3u, Z3t, Z3w, Z4l, Z4k, Z0v, Z0w, Z0x, Z0u, Z1h, Z4w, Z4v, Z4x, Z4u, Z4t, ex, Z4n, Z4m, ev_t, ev_c, Z2h, Z2g, Z4y, Z4z, Z2x, Z2w, Z2q, Z2u, Z2v, Z2r, Z2s, Z2t, putc, exBslice, lfill, exField, exIdxV, exIdxP, exBox, exAlloc, exLoad, exStore, exFieldA, exIdxA, exLen, exPick, exUn, exBeq, exMM, exSeq, seqGo, exExt, binV, intOp, subc, AV.solid, S0, encI, encB, c_det_Tails_1]
  refine hb _ id km most ss v set s _ ⟨M.g, M.m, M.vec, M.ne, M.hv, Nat.lt_of_lt_of_le M.lid (by show S.n ≤ S.n + 1 + 8; omega), Nat.lt_of_lt_of_le M.lkm (by show S.n ≤ S.n + 1 + 8; omega), fun i hi => Nat.lt_of_lt_of_le (M.lv i hi) (by show S.n ≤ S.n + 1 + 8; omega)⟩ hv fun m hm2 => ?_
  have h1 : (encIs (bhS .whole n set s)).cells = [encIs (bhS .whole n set s)] := rfl
  have h2 : (encIs (bhS .whole n set s)).solid = true := rfl
  simp only [AV.solid] at h2
  simp [Z0j, Z0e, Z0f, Z0b, Z0c, Z0k, Z0d, Z0h, Z0i, Z3a, Z39, Z08, Z0a, Z07, Z01, Z03, Z00, Z05, Z06, Z04, Z26, Z25, Z4q, Z4s, Z4r, Z4p, Z1u, Z1v, Z1t, Z40, Z3x, Z3z, Z3y, Z41, Z1s, Z2j, Z3d, Z4f, Z1k, Z1l, Z1m, Z4d, Z4e, Z1i, Z2i, Z1j, Z3v, Z3s, Z3u, Z3t, Z3w, Z4l, Z4k, Z0v, Z0w, Z0x, Z0u, Z1h, Z4w, Z4v, Z4x, Z4u, Z4t, ex, Z4n, Z4m, ev_t, ev_c, Z2h, Z2g, Z4y, Z4z, Z2x, Z2w, Z2q, Z2u, Z2v, Z2r, Z2s, Z2t, putc, exBslice, lfill, exField, exIdxV, exIdxP, exBox, exAlloc, exLoad, exStore, exFieldA, exIdxA, exLen, exPick, exUn, exBeq, exMM, exSeq, seqGo, exExt, binV, intOp, subc, AV.solid, S0, encI, encB, h1, h2]
  refine CallR.pure (hc _ ?_) (cl_cons (.sl _ _ (by
    intro y hy
    simp only [List.mem_cons, List.not_mem_nil, or_false] at hy
    rcases hy with rfl | rfl
    · exact .sl _ _ (by intro y hy; simp only [List.mem_cons, List.not_mem_nil, or_false] at hy; subst hy; exact Z32 _)
    · exact Z33 _)) cl_nil) (Z33 _) ?_
  · have := (step_val R set s).2
    show (stepN n set s).length ≤ 1000
    omega
  · simp [Z0j, Z0e, Z0f, Z0b, Z0c, Z0k, Z0d, Z0h, Z0i, Z3a, Z39, Z08, Z0a, Z07, Z01, Z03, Z00, Z05, Z06, Z04, Z26, Z25, Z4q, Z4s, Z4r, Z4p, Z1u, Z1v, Z1t, Z40, Z3x, Z3z, Z3y, Z41, Z1s, Z2j, Z3d, Z4f, Z1k, Z1l, Z1m, Z4d, Z4e, Z1i, Z2i, Z1j, Z3v, Z3s, Z3u, Z3t, Z3w, Z4l, Z4k, Z0v, Z0w, Z0x, Z0u, Z1h, Z4w, Z4v, Z4x, Z4u, Z4t, ex, Z4n, Z4m, ev_t, ev_c, Z2h, Z2g, Z4y, Z4z, Z2x, Z2w, Z2q, Z2u, Z2v, Z2r, Z2s, Z2t, putc, exBslice, lfill, exField, exIdxV, exIdxP, exBox, exAlloc, exLoad, exStore, exFieldA, exIdxA, exLen, exPick, exUn, exBeq, exMM, exSeq, seqGo, exExt, binV, intOp, subc, AV.solid, S0, encI, encB]
    exact hk _ (by simp only at hm2; omega)
theorem HB.heads {P : Program} (hm : P.follows .mixedOrders = true) {f fs fe : FuncId} {n : Net} (h : HStp P fs n) (he : HEnds P fe n) (hf : Is P f (c_det_Heads_1 fe fs) [6] 3) : HB P f n .heads := by
  intro S id km most ss v set s K M hv hk
  have hb := HB.whole h
  have hMm : ∀ m, S.n ≤ m → MkS ⟨m, S.g⟩ id km n most ss v := fun m hm2 => ⟨M.g, M.m, M.vec, M.ne, M.hv, Nat.lt_of_lt_of_le M.lid hm2, Nat.lt_of_lt_of_le M.lkm hm2, fun i hi => Nat.lt_of_lt_of_le (M.lv i hi) hm2⟩
  refine hf.callR hm rfl ?_
  simp [Z0j, Z0e, Z0f, Z0b, Z0c, Z0k, Z0d, Z0h, Z0i, Z3a, Z39, Z08, Z0a, Z07, Z01, Z03, Z00, Z05, Z06, Z04, Z26, Z25, Z4q, Z4s, Z4r, Z4p, Z1u, Z1v, Z1t, Z40, Z3x, Z3z, Z3y, Z41, Z1s, Z2j, Z3d, Z4f, Z1k, Z1l, Z1m, Z4d, Z4e, Z1i, Z2i, Z1j, Z3v, Z3s, Z3u, Z3t, Z3w, Z4l, Z4k, Z0v, Z0w, Z0x, Z0u, Z1h, Z4w, Z4v, Z4x, Z4u, Z4t, ex, Z4n, Z4m, ev_t, ev_c, Z2h, Z2g, Z4y, Z4z, Z2x, Z2w, Z2q, Z2u, Z2v, Z2r, Z2s, Z2t, putc, exBslice, lfill, exField, exIdxV, exIdxP, exBox, exAlloc, exLoad, exStore, exFieldA, exIdxA, exLen, exPick, exUn, exBeq, exMM, exSeq, seqGo, exExt, binV, intOp, subc, AV.solid, S0, encI, encB, c_det_Heads_1]
  refine CallR.looks (S := ⟨S.n + 1 + 3, S.g⟩) (he set hv) (FzL.cons (M.pre rfl) (FzL.cons (.closed _ (Z33 _)) FzL.nil)) (plain_B _) ?_
  cases hq : endsB n set with
  | true =>
    simp [Z0j, Z0e, Z0f, Z0b, Z0c, Z0k, Z0d, Z0h, Z0i, Z3a, Z39, Z08, Z0a, Z07, Z01, Z03, Z00, Z05, Z06, Z04, Z26, Z25, Z4q, Z4s, Z4r, Z4p, Z1u, Z1v, Z1t, Z40, Z3x, Z3z, Z3y, Z41, Z1s, Z2j, Z3d, Z4f, Z1k, Z1l, Z1m, Z4d, Z4e, Z1i, Z2i, Z1j, Z3v, Z3s, Z3u, Z3t, Z3w, Z4l, Z4k, Z0v, Z0w, Z0x, Z0u, Z1h, Z4w, Z4v, Z4x, Z4u, Z4t, ex, Z4n, Z4m, ev_t, ev_c, Z2h, Z2g, Z4y, Z4z, Z2x, Z2w, Z2q, Z2u, Z2v, Z2r, Z2s, Z2t, putc, exBslice, lfill, exField, exIdxV, exIdxP, exBox, exAlloc, exLoad, exStore, exFieldA, exIdxA, exLen, exPick, exUn, exBeq, exMM, exSeq, seqGo, exExt, binV, intOp, subc, AV.solid, S0, encI, encB]
    have := hk (S.n + 1 + 3 + 2) (by omega)
    simp only [bhS, hq, if_true] at this
    exact this
  | false =>
    simp [Z0j, Z0e, Z0f, Z0b, Z0c, Z0k, Z0d, Z0h, Z0i, Z3a, Z39, Z08, Z0a, Z07, Z01, Z03, Z00, Z05, Z06, Z04, Z26, Z25, Z4q, Z4s, Z4r, Z4p, Z1u, Z1v, Z1t, Z40, Z3x, Z3z, Z3y, Z41, Z1s, Z2j, Z3d, Z4f, Z1k, Z1l, Z1m, Z4d, Z4e, Z1i, Z2i, Z1j, Z3v, Z3s, Z3u, Z3t, Z3w, Z4l, Z4k, Z0v, Z0w, Z0x, Z0u, Z1h, Z4w, Z4v, Z4x, Z4u, Z4t, ex, Z4n, Z4m, ev_t, ev_c, Z2h, Z2g, Z4y, Z4z, Z2x, Z2w, Z2q, Z2u, Z2v, Z2r, Z2s, Z2t, putc, exBslice, lfill, exField, exIdxV, exIdxP, exBox, exAlloc, exLoad, exStore, exFieldA, exIdxA, exLen, exPick, exUn, exBeq, exMM, exSeq, seqGo, exExt, binV, intOp, subc, AV.solid, S0, encI, encB]
    refine hb _ id km most ss v set s _ (hMm _ (by omega)) hv fun m hm2 => ?_
    simp [Z0j, Z0e, Z0f, Z0b, Z0c, Z0k, Z0d, Z0h, Z0i, Z3a, Z39, Z08, Z0a, Z07, Z01, Z03, Z00, Z05, Z06, Z04, Z26, Z25, Z4q, Z4s, Z4r, Z4p, Z1u, Z1v, Z1t, Z40, Z3x, Z3z, Z3y, Z41, Z1s, Z2j, Z3d, Z4f, Z1k, Z1l, Z1m, Z4d, Z4e, Z1i, Z2i, Z1j, Z3v, Z3s, Z3u, Z3t, Z3w, Z4l, Z4k, Z0v, Z0w, Z0x, Z0u, Z1h, Z4w, Z4v, Z4x, Z4u, Z4t, ex, Z4n, Z4m, ev_t, ev_c, Z2h, Z2g, Z4y, Z4z, Z2x, Z2w, Z2q, Z2u, Z2v, Z2r, Z2s, Z2t, putc, exBslice, lfill, exField, exIdxV, exIdxP, exBox, exAlloc, exLoad, exStore, exFieldA, exIdxA, exLen, exPick, exUn, exBeq, exMM, exSeq, seqGo, exExt, binV, intOp, subc, AV.solid, S0, encI, encB]
    have := hk m (by simp only at hm2; omega)
    simp only [bhS, hq, Bool.false_eq_true, if_false] at this
    exact this
/-- The closure over what stands behind a set. -/
theorem HB.clo {P : Program} (hm : P.follows .mixedOrders = true) {f fb : FuncId} {n : Net} {kd : Kd} (h : HB P fb n kd) (hf : Is P f c_det_make1_2 [6] 4) {S00 : St} {id km k5 k8 : Nat} {most : Int} (h5 : S00.g k5 = some (.arr 1 [.clo fb [] []])) (h8 : S00.g k8 = some (.arr 1 [.ptr id 0 0]))
    (l5 : k5 < S00.n) (l8 : k8 < S00.n) (n5 : k5 ≠ id ∧ k5 ≠ km) (n8 : k8 ≠ id ∧ k8 ≠ km) : HBeh P f [.ptr k5 0 0, .ptr k8 0 0] S00 id km n most kd := by
  intro S ss v set s K M hold hv hk
  have g5 : S.g k5 = some (.arr 1 [.clo fb [] []]) := (hold.2 k5 l5 n5.1 n5.2).trans h5
  have g8 : S.g k8 = some (.arr 1 [.ptr id 0 0]) := (hold.2 k8 l8 n8.1 n8.2).trans h8
  have hMm : ∀ m, S.n ≤ m → MkS ⟨m, S.g⟩ id km n most ss v := fun m hm2 => ⟨M.g, M.m, M.vec, M.ne, M.hv, Nat.lt_of_lt_of_le M.lid hm2, Nat.lt_of_lt_of_le M.lkm hm2, fun i hi => Nat.lt_of_lt_of_le (M.lv i hi) hm2⟩
  refine hf.callR hm rfl ?_
  simp [Z0j, Z0e, Z0f, Z0b, Z0c, Z0k, Z0d, Z0h, Z0i, Z3a, Z39, Z08, Z0a, Z07, Z01, Z03, Z00, Z05, Z06, Z04, Z26, Z25, Z4q, Z4s, Z4r, Z4p, Z1u, Z1v, Z1t, Z40, Z3x, Z3z, Z3y, Z41, Z1s, Z2j, Z3d, Z4f, Z1k, Z1l, Z1m, Z4d, Z4e, Z1i, Z2i, Z1j, Z3v, Z3s, Z3u, Z3t, Z3w, Z4l, Z4k, Z0v, Z0w, Z0x, Z0u, Z1h, Z4w, Z4v, Z4x, Z4u, Z4t, ex, Z4n, Z4m, ev_t, ev_c, Z2h, Z2g, Z4y, Z4z, Z2x, Z2w, Z2q, Z2u, Z2v, Z2r, Z2s, Z2t, putc, exBslice, lfill, exField, exIdxV, exIdxP, exBox, exAlloc, exLoad, exStore, exFieldA, exIdxA, exLen, exPick, exUn, exBeq, exMM, exSeq, seqGo, exExt, binV, intOp, subc, AV.solid, S0, encI, encB, c_det_make1_2, g5, g8]
  refine h _ id km most ss v set s _ (hMm _ (by omega)) hv fun m hm2 => ?_
  simp [Z0j, Z0e, Z0f, Z0b, Z0c, Z0k, Z0d, Z0h, Z0i, Z3a, Z39, Z08, Z0a, Z07, Z01, Z03, Z00, Z05, Z06, Z04, Z26, Z25, Z4q, Z4s, Z4r, Z4p, Z1u, Z1v, Z1t, Z40, Z3x, Z3z, Z3y, Z41, Z1s, Z2j, Z3d, Z4f, Z1k, Z1l, Z1m, Z4d, Z4e, Z1i, Z2i, Z1j, Z3v, Z3s, Z3u, Z3t, Z3w, Z4l, Z4k, Z0v, Z0w, Z0x, Z0u, Z1h, Z4w, Z4v, Z4x, Z4u, Z4t, ex, Z4n, Z4m, ev_t, ev_c, Z2h, Z2g, Z4y, Z4z, Z2x, Z2w, Z2q, Z2u, Z2v, Z2r, Z2s, Z2t, putc, exBslice, lfill, exField, exIdxV, exIdxP, exBox, exAlloc, exLoad, exStore, exFieldA, exIdxA, exLen, exPick, exUn, exBeq, exMM, exSeq, seqGo, exExt, binV, intOp, subc, AV.solid, S0, encI, encB]
  exact hk m (by simp only at hm2; omega)
/-! ### make1 -/
def eDet0 : AV := encDet ⟨0, [], []⟩
def encRes (kd : Kd) (n : Net) (most : Int) : AV :=
  if rightN n = true ∧ 1 ≤ most ∧ most ≤ 3000 then (match dmakeF kd n most with
    | some st => .tup [encDet ⟨n.signs, st.2.1, st.2.2⟩, encI 0]
    | none => .tup [eDet0, encI 13])
  else .tup [eDet0, encI 1]
def m1Rec (fr f1 f2 fall : FuncId) : M1 := ⟨c_m1_0, c_m1_g fr, 21, f1, 6, 7, c_m1_r f2 fall, 30, [.c 6 (some 3), .c 7 none]⟩
theorem fzn_res0 (g : Nat → Option Blk) (e : Int) : FzN g (.tup [.agg [.v (.int .i64 0), .sl true [], .sl true []], .v (.int .i64 e)]) (.tup [eDet0, encI e]) := by
  refine .tup _ _ rfl (fun i h1 h2 => ?_)
  match i, h1 with
  | 0, _ =>
    refine .agg _ _ rfl (fun j k1 k2 => ?_)
    match j, k1 with
    | 0, _ => exact .v _
    | 1, _ => exact .nil true false (by simp)
    | 2, _ => exact .nil true false (by simp)
  | 1, _ => exact .v _
theorem m1_rest {P : Program} (hm : P.follows .mixedOrders = true) {f1 f2 fall fnum fe fb fT : FuncId} (hall : IsX P fall (c_det_maker_all fnum fe) [.c 4 (some 3)] 2) (hf2 : Is P f2 c_det_make1_2 [6] 4)
    {n : Net} {kd : Kd} {most : Int} (R : RightN n) (hnum : HNum P fnum fT n) (hb : HB P fb n kd) (hend : HEnds P fe n) (h1 : 1 ≤ most) (h3 : most ≤ 3000) {f : AF} {S : St} (e1 : f 1 = encI most) (e3 : f 3 = .ptr 0 0 0) (e5 : f 5 = .ptr 1 0 0) (e6 : f 6 = .ptr 2 0 0) (e7 : f 7 = .ptr 3 0 0)
    (g0 : S.g 0 = some (.arr 4 [encNet n])) (g1 : S.g 1 = some (.arr 1 [.clo fb [] []])) (g2 : S.g 2 = some (.arr 3 [zDet])) (g3 : S.g 3 = some (.arr 1 [encI 0])) (hn : 4 ≤ S.n) :
    AW P (c_m1_r f2 fall) (RestQ P (c_m11_r fT) 5 2 [.c 6 (some 3), .c 7 none] [.ptr 2 0 0, .ptr 3 0 0] fun r' S' => FzN S'.g r' (encRes kd n most)) (f.put (some 21) (.clo f1 [] [.ptr 2 0 0, .ptr 3 0 0])) S := by
  have hR : rightN n = true := (rightN_iff n).mpr R
  have ec : (encNet n).cells = [encI n.signs, encIss n.by_, encIss n.follow, encIs n.last] := rfl
  have es : (encNet n).solid = true := rfl
  simp only [AV.solid] at es
  simp [Z0j, Z0e, Z0f, Z0b, Z0c, Z0k, Z0d, Z0h, Z0i, Z3a, Z39, Z08, Z0a, Z07, Z01, Z03, Z00, Z05, Z06, Z04, Z26, Z25, Z4q, Z4s, Z4r, Z4p, Z1u, Z1v, Z1t, Z40, Z3x, Z3z, Z3y, Z41, Z1s, Z2j, Z3d, Z4f, Z1k, Z1l, Z1m, Z4d, Z4e, Z1i, Z2i, Z1j, Z3v, Z3s, Z3u, Z3t, Z3w, Z4l, Z4k, Z0v, Z0w, Z0x, Z0u, Z1h, Z4w, Z4v, Z4x, Z4u, Z4t, ex, Z4n, Z4m, ev_t, ev_c, Z2h, Z2g, Z4y, Z4z, Z2x, Z2w, Z2q, Z2u, Z2v, Z2r, Z2s, Z2t, putc, exBslice, lfill, exField, exIdxV, exIdxP, exBox, exAlloc, exLoad, exStore, exFieldA, exIdxA, exLen, exPick, exUn, exBeq, exMM, exSeq, seqGo, exExt, binV, intOp, subc, AV.solid, S0, encI, encB, Z1o, Z45, Z42, Z46, Z44, Z43, Z0g, Z1p, Z1r, Z3f, Z1q, Z4g, Z1n, Z2k, Z3e, Z4j, Z09, Z02, Z2a, Z2b, Z29, exMki, plainV, plainVs, c_m1_r, e1, e3, e5, e6, e7, g0, g1, g2, g3, ec, es, exBuild, afill, exMmk]
  have k1 : ∀ i, i < S.n → (((((⟨S.n + 7, S.g⟩ : St).set (S.n + 2) (some (.map []))).set (S.n + 4) (some (.arr 7 [.agg [.v (.int .i64 n.signs), encIss n.by_, encIss n.follow, encIs n.last, .v (.int .i64 most), .mp (S.n + 2), .sl true []]]))).set (S.n + 5) (some (.arr 1 [.v (.pointer none)]))).set (S.n + 5) (some (.arr 1 [.ptr (S.n + 4) 0 0]))).g i = S.g i := fun i hi => by
    rw [Z4y, if_neg (by omega), Z4y, if_neg (by omega), Z4y, if_neg (by omega), Z4y, if_neg (by omega)]
  have k2 : (((((⟨S.n + 7, S.g⟩ : St).set (S.n + 2) (some (.map []))).set (S.n + 4) (some (.arr 7 [.agg [.v (.int .i64 n.signs), encIss n.by_, encIss n.follow, encIs n.last, .v (.int .i64 most), .mp (S.n + 2), .sl true []]]))).set (S.n + 5) (some (.arr 1 [.v (.pointer none)]))).set (S.n + 5) (some (.arr 1 [.ptr (S.n + 4) 0 0]))).g (S.n + 2) = some (.map []) := by
    rw [Z4y, if_neg (by omega), Z4y, if_neg (by omega), Z4y, if_neg (by omega), Z4y, if_pos rfl]
  have k3 : (((((⟨S.n + 7, S.g⟩ : St).set (S.n + 2) (some (.map []))).set (S.n + 4) (some (.arr 7 [.agg [.v (.int .i64 n.signs), encIss n.by_, encIss n.follow, encIs n.last, .v (.int .i64 most), .mp (S.n + 2), .sl true []]]))).set (S.n + 5) (some (.arr 1 [.v (.pointer none)]))).set (S.n + 5) (some (.arr 1 [.ptr (S.n + 4) 0 0]))).g (S.n + 4) = some (.arr 7 [.agg [encI n.signs, encIss n.by_, encIss n.follow, encIs n.last, encI most, .mp (S.n + 2), .sl true []]]) := by
    rw [Z4y, if_neg (by omega), Z4y, if_neg (by omega), Z4y, if_pos rfl]; rfl
  have k4 : (((((⟨S.n + 7, S.g⟩ : St).set (S.n + 2) (some (.map []))).set (S.n + 4) (some (.arr 7 [.agg [.v (.int .i64 n.signs), encIss n.by_, encIss n.follow, encIs n.last, .v (.int .i64 most), .mp (S.n + 2), .sl true []]]))).set (S.n + 5) (some (.arr 1 [.v (.pointer none)]))).set (S.n + 5) (some (.arr 1 [.ptr (S.n + 4) 0 0]))).g (S.n + 5) = some (.arr 1 [.ptr (S.n + 4) 0 0]) := by
    rw [Z4y, if_pos rfl]
  generalize (((((⟨S.n + 7, S.g⟩ : St).set (S.n + 2) (some (.map []))).set (S.n + 4) (some (.arr 7 [.agg [.v (.int .i64 n.signs), encIss n.by_, encIss n.follow, encIs n.last, .v (.int .i64 most), .mp (S.n + 2), .sl true []]]))).set (S.n + 5) (some (.arr 1 [.v (.pointer none)]))).set (S.n + 5) (some (.arr 1 [.ptr (S.n + 4) 0 0]))).g = G at *
  have M : MkS ⟨S.n + 7 + 5, G⟩ (S.n + 4) (S.n + 2) n most [] (.sl true []) :=
    ⟨k3, k2, .nil, by omega, by simp [AV.ids], by show S.n + 4 < S.n + 7 + 5; omega, by show S.n + 2 < S.n + 7 + 5; omega, by simp [AV.ids]⟩
  have hbeh := hb.clo hm hf2 (S00 := ⟨S.n + 7 + 5, G⟩) (id := S.n + 4) (km := S.n + 2) (k5 := 1) (k8 := S.n + 5) (most := most) ((k1 1 (by omega)).trans g1) k4 (by show 1 < S.n + 7 + 5; omega) (by show S.n + 5 < S.n + 7 + 5; omega) ⟨by omega, by omega⟩ ⟨by omega, by omega⟩
  have hpre : ∀ S' : St, Old ⟨S.n + 7 + 5, G⟩ S' (S.n + 4) (S.n + 2) → S'.g 2 = some (.arr 3 [zDet]) ∧ S'.g 3 = some (.arr 1 [encI 0]) := fun S' hold =>
    ⟨((hold.2 2 (by show 2 < S.n + 7 + 5; omega) (by omega) (by omega)).trans (k1 2 (by omega))).trans g2, ((hold.2 3 (by show 3 < S.n + 7 + 5; omega) (by omega) (by omega)).trans (k1 3 (by omega))).trans g3⟩
  refine all_ok2 hm hall R hnum hbeh hend h1 h3 M (fun st S' vN vE g hmade hold hgsub z1 z2 => ?_) (fun hmade S' hold => ?_)
  · obtain ⟨q2, q3⟩ := hpre S' hold
    simp only [zDet] at q2
    have hnn : S.n + 7 + 5 ≤ S'.n := hold.1
    have hs2 : S'.n ≠ 2 := by omega
    have hs3 : S'.n ≠ 3 := by omega
    simp [Z0j, Z0e, Z0f, Z0b, Z0c, Z0k, Z0d, Z0h, Z0i, Z3a, Z39, Z08, Z0a, Z07, Z01, Z03, Z00, Z05, Z06, Z04, Z26, Z25, Z4q, Z4s, Z4r, Z4p, Z1u, Z1v, Z1t, Z40, Z3x, Z3z, Z3y, Z41, Z1s, Z2j, Z3d, Z4f, Z1k, Z1l, Z1m, Z4d, Z4e, Z1i, Z2i, Z1j, Z3v, Z3s, Z3u, Z3t, Z3w, Z4l, Z4k, Z0v, Z0w, Z0x, Z0u, Z1h, Z4w, Z4v, Z4x, Z4u, Z4t, ex, Z4n, Z4m, ev_t, ev_c, Z2h, Z2g, Z4y, Z4z, Z2x, Z2w, Z2q, Z2u, Z2v, Z2r, Z2s, Z2t, putc, exBslice, lfill, exField, exIdxV, exIdxP, exBox, exAlloc, exLoad, exStore, exFieldA, exIdxA, exLen, exPick, exUn, exBeq, exMM, exSeq, seqGo, exExt, binV, intOp, subc, AV.solid, S0, encI, encB, Z1o, Z45, Z42, Z46, Z44, Z43, Z0g, Z1p, Z1r, Z3f, Z1q, Z4g, Z1n, Z2k, Z3e, Z4j, Z09, Z02, Z2a, Z2b, Z29, exMki, plainV, plainVs, e6, e7, q2, q3, RestQ, Dfr, recU]
    simp [Z0j, Z0e, Z0f, Z0b, Z0c, Z0k, Z0d, Z0h, Z0i, Z3a, Z39, Z08, Z0a, Z07, Z01, Z03, Z00, Z05, Z06, Z04, Z26, Z25, Z4q, Z4s, Z4r, Z4p, Z1u, Z1v, Z1t, Z40, Z3x, Z3z, Z3y, Z41, Z1s, Z2j, Z3d, Z4f, Z1k, Z1l, Z1m, Z4d, Z4e, Z1i, Z2i, Z1j, Z3v, Z3s, Z3u, Z3t, Z3w, Z4l, Z4k, Z0v, Z0w, Z0x, Z0u, Z1h, Z4w, Z4v, Z4x, Z4u, Z4t, ex, Z4n, Z4m, ev_t, ev_c, Z2h, Z2g, Z4y, Z4z, Z2x, Z2w, Z2q, Z2u, Z2v, Z2r, Z2s, Z2t, putc, exBslice, lfill, exField, exIdxV, exIdxP, exBox, exAlloc, exLoad, exStore, exFieldA, exIdxA, exLen, exPick, exUn, exBeq, exMM, exSeq, seqGo, exExt, binV, intOp, subc, AV.solid, S0, encI, encB, Z1o, Z45, Z42, Z46, Z44, Z43, Z0g, Z1p, Z1r, Z3f, Z1q, Z4g, Z1n, Z2k, Z3e, Z4j, Z09, Z02, Z2a, Z2b, Z29, exMki, plainV, plainVs, c_m11_r, exTas, exInil, e6, e7]
    have x2 : ¬ (2 = S'.n + 5) := by omega
    have x3 : ¬ (3 = S'.n + 5) := by omega
    refine ⟨[.agg [.v (.int .i64 n.signs), vN, vE], .v (.int .i64 0)], ?_, ?_⟩
    · simp [evC, RV.ev, ldC, Z4n, Z4y, e6, e7, x2, x3, subc, Z2q, Z2x]
    · rw [encRes, if_pos ⟨hR, h1, h3⟩, hmade]
      refine .tup _ _ rfl (fun i k1 k2 => ?_)
      match i, k1 with
      | 0, _ =>
        refine .agg _ _ rfl (fun j k1 k2 => ?_)
        match j, k1 with
        | 0, _ => exact .v _
        | 1, _ =>
          refine z1.mono fun i k e => ?_
          obtain ⟨w1, w2, w3⟩ := hgsub i k e
          have w2' : S.n + 7 + 5 ≤ i := w2
          rw [Z4y, if_neg (by omega), Z4y, if_neg (by omega), Z4y, if_neg (by omega), Z4y, if_neg (by omega)]
          exact w1
        | 2, _ =>
          refine z2.mono fun i k e => ?_
          obtain ⟨w1, w2, w3⟩ := hgsub i k e
          have w2' : S.n + 7 + 5 ≤ i := w2
          rw [Z4y, if_neg (by omega), Z4y, if_neg (by omega), Z4y, if_neg (by omega), Z4y, if_neg (by omega)]
          exact w1
      | 1, _ => exact .v _
  · obtain ⟨q2, q3⟩ := hpre S' hold
    simp only [zDet] at q2
    have hnn : S.n + 7 + 5 ≤ S'.n := hold.1
    simp [Z0j, Z0e, Z0f, Z0b, Z0c, Z0k, Z0d, Z0h, Z0i, Z3a, Z39, Z08, Z0a, Z07, Z01, Z03, Z00, Z05, Z06, Z04, Z26, Z25, Z4q, Z4s, Z4r, Z4p, Z1u, Z1v, Z1t, Z40, Z3x, Z3z, Z3y, Z41, Z1s, Z2j, Z3d, Z4f, Z1k, Z1l, Z1m, Z4d, Z4e, Z1i, Z2i, Z1j, Z3v, Z3s, Z3u, Z3t, Z3w, Z4l, Z4k, Z0v, Z0w, Z0x, Z0u, Z1h, Z4w, Z4v, Z4x, Z4u, Z4t, ex, Z4n, Z4m, ev_t, ev_c, Z2h, Z2g, Z4y, Z4z, Z2x, Z2w, Z2q, Z2u, Z2v, Z2r, Z2s, Z2t, putc, exBslice, lfill, exField, exIdxV, exIdxP, exBox, exAlloc, exLoad, exStore, exFieldA, exIdxA, exLen, exPick, exUn, exBeq, exMM, exSeq, seqGo, exExt, binV, intOp, subc, AV.solid, S0, encI, encB, Z1o, Z45, Z42, Z46, Z44, Z43, Z0g, Z1p, Z1r, Z3f, Z1q, Z4g, Z1n, Z2k, Z3e, Z4j, Z09, Z02, Z2a, Z2b, Z29, exMki, plainV, plainVs]
    simp only [pn, AThen]
    refine ⟨tmV fT, rfl, rfl, ?_⟩
    have x2 : ¬ (2 = S'.n + 5) := by omega
    have x3 : ¬ (3 = S'.n + 5) := by omega
    have hbe : Nat.beq fT fT = true := Nat.beq_refl fT
    have hov : ofVal (.agg #[]) = some (.agg []) := rfl
    simp [Z0j, Z0e, Z0f, Z0b, Z0c, Z0k, Z0d, Z0h, Z0i, Z3a, Z39, Z08, Z0a, Z07, Z01, Z03, Z00, Z05, Z06, Z04, Z26, Z25, Z4q, Z4s, Z4r, Z4p, Z1u, Z1v, Z1t, Z40, Z3x, Z3z, Z3y, Z41, Z1s, Z2j, Z3d, Z4f, Z1k, Z1l, Z1m, Z4d, Z4e, Z1i, Z2i, Z1j, Z3v, Z3s, Z3u, Z3t, Z3w, Z4l, Z4k, Z0v, Z0w, Z0x, Z0u, Z1h, Z4w, Z4v, Z4x, Z4u, Z4t, ex, Z4n, Z4m, ev_t, ev_c, Z2h, Z2g, Z4y, Z4z, Z2x, Z2w, Z2q, Z2u, Z2v, Z2r, Z2s, Z2t, putc, exBslice, lfill, exField, exIdxV, exIdxP, exBox, exAlloc, exLoad, exStore, exFieldA, exIdxA, exLen, exPick, exUn, exBeq, exMM, exSeq, seqGo, exExt, binV, intOp, subc, AV.solid, S0, encI, encB, Z1o, Z45, Z42, Z46, Z44, Z43, Z0g, Z1p, Z1r, Z3f, Z1q, Z4g, Z1n, Z2k, Z3e, Z4j, Z09, Z02, Z2a, Z2b, Z29, exMki, plainV, plainVs, e6, e7, q2, q3, RestQ, Dfr, recU, tmV]
    simp [Z0j, Z0e, Z0f, Z0b, Z0c, Z0k, Z0d, Z0h, Z0i, Z3a, Z39, Z08, Z0a, Z07, Z01, Z03, Z00, Z05, Z06, Z04, Z26, Z25, Z4q, Z4s, Z4r, Z4p, Z1u, Z1v, Z1t, Z40, Z3x, Z3z, Z3y, Z41, Z1s, Z2j, Z3d, Z4f, Z1k, Z1l, Z1m, Z4d, Z4e, Z1i, Z2i, Z1j, Z3v, Z3s, Z3u, Z3t, Z3w, Z4l, Z4k, Z0v, Z0w, Z0x, Z0u, Z1h, Z4w, Z4v, Z4x, Z4u, Z4t, ex, Z4n, Z4m, ev_t, ev_c, Z2h, Z2g, Z4y, Z4z, Z2x, Z2w, Z2q, Z2u, Z2v, Z2r, Z2s, Z2t, putc, exBslice, lfill, exField, exIdxV, exIdxP, exBox, exAlloc, exLoad, exStore, exFieldA, exIdxA, exLen, exPick, exUn, exBeq, exMM, exSeq, seqGo, exExt, binV, intOp, subc, AV.solid, S0, encI, encB, Z1o, Z45, Z42, Z46, Z44, Z43, Z0g, Z1p, Z1r, Z3f, Z1q, Z4g, Z1n, Z2k, Z3e, Z4j, Z09, Z02, Z2a, Z2b, Z29, exMki, plainV, plainVs, c_m11_r, exTas, exInil, e6, e7, hbe, hov, exBuild, afill, q2, q3, x2, x3]
    refine ⟨[.agg [.v (.int .i64 0), .sl true [], .sl true []], .v (.int .i64 13)], ?_, ?_⟩
    · simp [evC, RV.ev, ldC, Z4n, Z4y, e6, e7, x2, x3, subc, Z2q, Z2x]
    · rw [encRes, if_pos ⟨hR, h1, h3⟩, hmade]
      exact fzn_res0 _ 13
theorem make1_ok {P : Program} (hm : P.follows .mixedOrders = true) {f fr f1 f2 fall fnum fe fb fT : FuncId} (h : m1Of P f = some (m1Rec fr f1 f2 fall)) (h' : recAC P f1 = some (5, 2, c_m11_r fT, 16)) (hall : IsX P fall (c_det_maker_all fnum fe) [.c 4 (some 3)] 2) (hf2 : Is P f2 c_det_make1_2 [6] 4)
    {n : Net} {kd : Kd} {most : Int} (hr : PureC P fr [encNet n] (encB (rightN n))) (hnum : rightN n = true → HNum P fnum fT n) (hb : rightN n = true → HB P fb n kd) (hend : rightN n = true → HEnds P fe n) : PureN P f [encNet n, encI most, .clo fb [] []] (encRes kd n most) := by
  refine .of_callR (catch_ok hm h h' (by omega) (by show 3 ≤ 30; omega) ?_)
  show AW P c_m1_0 (PreQ P (m1Rec fr f1 f2 fall) (c_m11_r fT) 5 2 _) _ _
  have ha : exBox 4 (encNet n) = .new (some (.arr 4 [encNet n], fun i => .ptr i 0 0)) := rfl
  simp [Z0j, Z0e, Z0f, Z0b, Z0c, Z0k, Z0d, Z0h, Z0i, Z3a, Z39, Z08, Z0a, Z07, Z01, Z03, Z00, Z05, Z06, Z04, Z26, Z25, Z4q, Z4s, Z4r, Z4p, Z1u, Z1v, Z1t, Z40, Z3x, Z3z, Z3y, Z41, Z1s, Z2j, Z3d, Z4f, Z1k, Z1l, Z1m, Z4d, Z4e, Z1i, Z2i, Z1j, Z3v, Z3s, Z3u, Z3t, Z3w, Z4l, Z4k, Z0v, Z0w, Z0x, Z0u, Z1h, Z4w, Z4v, Z4x, Z4u, Z4t, ex, Z4n, Z4m, ev_t, ev_c, Z2h, Z2g, Z4y, Z4z, Z2x, Z2w, Z2q, Z2u, Z2v, Z2r, Z2s, Z2t, putc, exBslice, lfill, exField, exIdxV, exIdxP, exBox, exAlloc, exLoad, exStore, exFieldA, exIdxA, exLen, exPick, exUn, exBeq, exMM, exSeq, seqGo, exExt, binV, intOp, subc, AV.solid, S0, encI, encB, Z1o, Z45, Z42, Z46, Z44, Z43, Z0g, Z1p, Z1r, Z3f, Z1q, Z4g, Z1n, Z2k, Z3e, Z4j, Z09, Z02, Z2a, Z2b, Z29, exMki, plainV, plainVs, c_m1_0, encNet, encIss, encIs, PreQ]
  show AW P (c_m1_g fr) _ _ _
  by_cases hR : rightN n = true
  · by_cases h1 : most < 1
    · simp [Z0j, Z0e, Z0f, Z0b, Z0c, Z0k, Z0d, Z0h, Z0i, Z3a, Z39, Z08, Z0a, Z07, Z01, Z03, Z00, Z05, Z06, Z04, Z26, Z25, Z4q, Z4s, Z4r, Z4p, Z1u, Z1v, Z1t, Z40, Z3x, Z3z, Z3y, Z41, Z1s, Z2j, Z3d, Z4f, Z1k, Z1l, Z1m, Z4d, Z4e, Z1i, Z2i, Z1j, Z3v, Z3s, Z3u, Z3t, Z3w, Z4l, Z4k, Z0v, Z0w, Z0x, Z0u, Z1h, Z4w, Z4v, Z4x, Z4u, Z4t, ex, Z4n, Z4m, ev_t, ev_c, Z2h, Z2g, Z4y, Z4z, Z2x, Z2w, Z2q, Z2u, Z2v, Z2r, Z2s, Z2t, putc, exBslice, lfill, exField, exIdxV, exIdxP, exBox, exAlloc, exLoad, exStore, exFieldA, exIdxA, exLen, exPick, exUn, exBeq, exMM, exSeq, seqGo, exExt, binV, intOp, subc, AV.solid, S0, encI, encB, Z1o, Z45, Z42, Z46, Z44, Z43, Z0g, Z1p, Z1r, Z3f, Z1q, Z4g, Z1n, Z2k, Z3e, Z4j, Z09, Z02, Z2a, Z2b, Z29, exMki, plainV, plainVs, c_m1_g]
      refine CallX.ofR (CallR.pure hr (cl_cons (closed_Net n) cl_nil) (Z2z _) ?_)
      simp [Z0j, Z0e, Z0f, Z0b, Z0c, Z0k, Z0d, Z0h, Z0i, Z3a, Z39, Z08, Z0a, Z07, Z01, Z03, Z00, Z05, Z06, Z04, Z26, Z25, Z4q, Z4s, Z4r, Z4p, Z1u, Z1v, Z1t, Z40, Z3x, Z3z, Z3y, Z41, Z1s, Z2j, Z3d, Z4f, Z1k, Z1l, Z1m, Z4d, Z4e, Z1i, Z2i, Z1j, Z3v, Z3s, Z3u, Z3t, Z3w, Z4l, Z4k, Z0v, Z0w, Z0x, Z0u, Z1h, Z4w, Z4v, Z4x, Z4u, Z4t, ex, Z4n, Z4m, ev_t, ev_c, Z2h, Z2g, Z4y, Z4z, Z2x, Z2w, Z2q, Z2u, Z2v, Z2r, Z2s, Z2t, putc, exBslice, lfill, exField, exIdxV, exIdxP, exBox, exAlloc, exLoad, exStore, exFieldA, exIdxA, exLen, exPick, exUn, exBeq, exMM, exSeq, seqGo, exExt, binV, intOp, subc, AV.solid, S0, encI, encB, Z1o, Z45, Z42, Z46, Z44, Z43, Z0g, Z1p, Z1r, Z3f, Z1q, Z4g, Z1n, Z2k, Z3e, Z4j, Z09, Z02, Z2a, Z2b, Z29, exMki, plainV, plainVs, hR, h1, exBuild, afill, GuaQ, m1Rec, evC, RV.ev, ldC, packC]
      rw [encRes, if_neg (by omega)]
      exact fzn_res0 _ 1
    · by_cases h3 : 3000 < most
      · simp [Z0j, Z0e, Z0f, Z0b, Z0c, Z0k, Z0d, Z0h, Z0i, Z3a, Z39, Z08, Z0a, Z07, Z01, Z03, Z00, Z05, Z06, Z04, Z26, Z25, Z4q, Z4s, Z4r, Z4p, Z1u, Z1v, Z1t, Z40, Z3x, Z3z, Z3y, Z41, Z1s, Z2j, Z3d, Z4f, Z1k, Z1l, Z1m, Z4d, Z4e, Z1i, Z2i, Z1j, Z3v, Z3s, Z3u, Z3t, Z3w, Z4l, Z4k, Z0v, Z0w, Z0x, Z0u, Z1h, Z4w, Z4v, Z4x, Z4u, Z4t, ex, Z4n, Z4m, ev_t, ev_c, Z2h, Z2g, Z4y, Z4z, Z2x, Z2w, Z2q, Z2u, Z2v, Z2r, Z2s, Z2t, putc, exBslice, lfill, exField, exIdxV, exIdxP, exBox, exAlloc, exLoad, exStore, exFieldA, exIdxA, exLen, exPick, exUn, exBeq, exMM, exSeq, seqGo, exExt, binV, intOp, subc, AV.solid, S0, encI, encB, Z1o, Z45, Z42, Z46, Z44, Z43, Z0g, Z1p, Z1r, Z3f, Z1q, Z4g, Z1n, Z2k, Z3e, Z4j, Z09, Z02, Z2a, Z2b, Z29, exMki, plainV, plainVs, c_m1_g]
        refine CallX.ofR (CallR.pure hr (cl_cons (closed_Net n) cl_nil) (Z2z _) ?_)
        simp [Z0j, Z0e, Z0f, Z0b, Z0c, Z0k, Z0d, Z0h, Z0i, Z3a, Z39, Z08, Z0a, Z07, Z01, Z03, Z00, Z05, Z06, Z04, Z26, Z25, Z4q, Z4s, Z4r, Z4p, Z1u, Z1v, Z1t, Z40, Z3x, Z3z, Z3y, Z41, Z1s, Z2j, Z3d, Z4f, Z1k, Z1l, Z1m, Z4d, Z4e, Z1i, Z2i, Z1j, Z3v, Z3s, Z3u, Z3t, Z3w, Z4l, Z4k, Z0v, Z0w, Z0x, Z0u, Z1h, Z4w, Z4v, Z4x, Z4u, Z4t, ex, Z4n, Z4m, ev_t, ev_c, Z2h, Z2g, Z4y, Z4z, Z2x, Z2w, Z2q, Z2u, Z2v, Z2r, Z2s, Z2t, putc, exBslice, lfill, exField, exIdxV, exIdxP, exBox, exAlloc, exLoad, exStore, exFieldA, exIdxA, exLen, exPick, exUn, exBeq, exMM, exSeq, seqGo, exExt, binV, intOp, subc, AV.solid, S0, encI, encB, Z1o, Z45, Z42, Z46, Z44, Z43, Z0g, Z1p, Z1r, Z3f, Z1q, Z4g, Z1n, Z2k, Z3e, Z4j, Z09, Z02, Z2a, Z2b, Z29, exMki, plainV, plainVs, hR, h1, h3, exBuild, afill, GuaQ, m1Rec, evC, RV.ev, ldC, packC]
        rw [encRes, if_neg (by omega)]
        exact fzn_res0 _ 1
      · simp [Z0j, Z0e, Z0f, Z0b, Z0c, Z0k, Z0d, Z0h, Z0i, Z3a, Z39, Z08, Z0a, Z07, Z01, Z03, Z00, Z05, Z06, Z04, Z26, Z25, Z4q, Z4s, Z4r, Z4p, Z1u, Z1v, Z1t, Z40, Z3x, Z3z, Z3y, Z41, Z1s, Z2j, Z3d, Z4f, Z1k, Z1l, Z1m, Z4d, Z4e, Z1i, Z2i, Z1j, Z3v, Z3s, Z3u, Z3t, Z3w, Z4l, Z4k, Z0v, Z0w, Z0x, Z0u, Z1h, Z4w, Z4v, Z4x, Z4u, Z4t, ex, Z4n, Z4m, ev_t, ev_c, Z2h, Z2g, Z4y, Z4z, Z2x, Z2w, Z2q, Z2u, Z2v, Z2r, Z2s, Z2t, putc, exBslice, lfill, exField, exIdxV, exIdxP, exBox, exAlloc, exLoad, exStore, exFieldA, exIdxA, exLen, exPick, exUn, exBeq, exMM, exSeq, seqGo, exExt, binV, intOp, subc, AV.solid, S0, encI, encB, Z1o, Z45, Z42, Z46, Z44, Z43, Z0g, Z1p, Z1r, Z3f, Z1q, Z4g, Z1n, Z2k, Z3e, Z4j, Z09, Z02, Z2a, Z2b, Z29, exMki, plainV, plainVs, c_m1_g]
        refine CallX.ofR (CallR.pure hr (cl_cons (closed_Net n) cl_nil) (Z2z _) ?_)
        simp [Z0j, Z0e, Z0f, Z0b, Z0c, Z0k, Z0d, Z0h, Z0i, Z3a, Z39, Z08, Z0a, Z07, Z01, Z03, Z00, Z05, Z06, Z04, Z26, Z25, Z4q, Z4s, Z4r, Z4p, Z1u, Z1v, Z1t, Z40, Z3x, Z3z, Z3y, Z41, Z1s, Z2j, Z3d, Z4f, Z1k, Z1l, Z1m, Z4d, Z4e, Z1i, Z2i, Z1j, Z3v, Z3s, Z3u, Z3t, Z3w, Z4l, Z4k, Z0v, Z0w, Z0x, Z0u, Z1h, Z4w, Z4v, Z4x, Z4u, Z4t, ex, Z4n, Z4m, ev_t, ev_c, Z2h, Z2g, Z4y, Z4z, Z2x, Z2w, Z2q, Z2u, Z2v, Z2r, Z2s, Z2t, putc, exBslice, lfill, exField, exIdxV, exIdxP, exBox, exAlloc, exLoad, exStore, exFieldA, exIdxA, exLen, exPick, exUn, exBeq, exMM, exSeq, seqGo, exExt, binV, intOp, subc, AV.solid, S0, encI, encB, Z1o, Z45, Z42, Z46, Z44, Z43, Z0g, Z1p, Z1r, Z3f, Z1q, Z4g, Z1n, Z2k, Z3e, Z4j, Z09, Z02, Z2a, Z2b, Z29, exMki, plainV, plainVs, hR, h1, h3]
        have R := (rightN_iff n).mp hR
        simp only [GuaQ]
        refine m1_rest hm hall hf2 R (hnum hR) (hb hR) (hend hR) (by omega) (by omega) ?_ ?_ ?_ ?_ ?_ ?_ ?_ ?_ ?_ ?_
        · simp [Z4n, Z2h, Z2g, encI]
        · simp [Z4n]
        · simp [Z4n]
        · simp [Z4n]
        · simp [Z4n]
        · simp [Z4y, encNet, encI, encIss, encIs]
        · simp [Z4y]
        · simp [Z4y, zDet, encI]
        · simp [Z4y, encI]
        · simp
  · simp [Z0j, Z0e, Z0f, Z0b, Z0c, Z0k, Z0d, Z0h, Z0i, Z3a, Z39, Z08, Z0a, Z07, Z01, Z03, Z00, Z05, Z06, Z04, Z26, Z25, Z4q, Z4s, Z4r, Z4p, Z1u, Z1v, Z1t, Z40, Z3x, Z3z, Z3y, Z41, Z1s, Z2j, Z3d, Z4f, Z1k, Z1l, Z1m, Z4d, Z4e, Z1i, Z2i, Z1j, Z3v, Z3s, Z3u, Z3t, Z3w, Z4l, Z4k, Z0v, Z0w, Z0x, Z0u, Z1h, Z4w, Z4v, Z4x, Z4u, Z4t, ex, Z4n, Z4m, ev_t, ev_c, Z2h, Z2g, Z4y, Z4z, Z2x, Z2w, Z2q, Z2u, Z2v, Z2r, Z2s, Z2t, putc, exBslice, lfill, exField, exIdxV, exIdxP, exBox, exAlloc, exLoad, exStore, exFieldA, exIdxA, exLen, exPick, exUn, exBeq, exMM, exSeq, seqGo, exExt, binV, intOp, subc, AV.solid, S0, encI, encB, Z1o, Z45, Z42, Z46, Z44, Z43, Z0g, Z1p, Z1r, Z3f, Z1q, Z4g, Z1n, Z2k, Z3e, Z4j, Z09, Z02, Z2a, Z2b, Z29, exMki, plainV, plainVs, c_m1_g]
    refine CallX.ofR (CallR.pure hr (cl_cons (closed_Net n) cl_nil) (Z2z _) ?_)
    simp [Z0j, Z0e, Z0f, Z0b, Z0c, Z0k, Z0d, Z0h, Z0i, Z3a, Z39, Z08, Z0a, Z07, Z01, Z03, Z00, Z05, Z06, Z04, Z26, Z25, Z4q, Z4s, Z4r, Z4p, Z1u, Z1v, Z1t, Z40, Z3x, Z3z, Z3y, Z41, Z1s, Z2j, Z3d, Z4f, Z1k, Z1l, Z1m, Z4d, Z4e, Z1i, Z2i, Z1j, Z3v, Z3s, Z3u, Z3t, Z3w, Z4l, Z4k, Z0v, Z0w, Z0x, Z0u, Z1h, Z4w, Z4v, Z4x, Z4u, Z4t, ex, Z4n, Z4m, ev_t, ev_c, Z2h, Z2g, Z4y, Z4z, Z2x, Z2w, Z2q, Z2u, Z2v, Z2r, Z2s, Z2t, putc, exBslice, lfill, exField, exIdxV, exIdxP, exBox, exAlloc, exLoad, exStore, exFieldA, exIdxA, exLen, exPick, exUn, exBeq, exMM, exSeq, seqGo, exExt, binV, intOp, subc, AV.solid, S0, encI, encB, Z1o, Z45, Z42, Z46, Z44, Z43, Z0g, Z1p, Z1r, Z3f, Z1q, Z4g, Z1n, Z2k, Z3e, Z4j, Z09, Z02, Z2a, Z2b, Z29, exMki, plainV, plainVs, hR, exBuild, afill, GuaQ, m1Rec, evC, RV.ev, ldC, packC]
    rw [encRes, if_neg (by simp [hR])]
    exact fzn_res0 _ 1
end Go.Rf


/- Own work: det.Whole, det.Tails, det.Heads. -/
set_option linter.unusedVariables false
set_option linter.unusedSimpArgs false
namespace Go.Rf
open Go.RowKit
def c_det_Whole (f_det_make1 f_det_maker_step : FuncId) : AC :=
  (.seq (.reg none [
   ⟨(some 2), .box 4 (.t 0), none, none⟩,
   ⟨(some 4), .alloc (.agg [(.v (.int .i64 0)), (.sl true []), (.sl true [])]) 3, none, none⟩,
   ⟨(some 5), .mv (.c (.v (.int .i64 0))), none, none⟩])
  (.seq (.reg none [
   ⟨(some 6), .load (some 4) (.t 2), none, none⟩,
   ⟨(some 7), .mv (.t 1), none, none⟩,
   ⟨(some 8), .mv (.c .junk), none, (some ((.c (.clo f_det_make1 [] [])), [(.t 6), (.t 7), (.c (.clo f_det_maker_step [] []))]))⟩,
   ⟨(some 9), .ext 0 (.t 8), none, none⟩,
   ⟨(some 10), .ext 1 (.t 8), none, none⟩,
   ⟨none, .store 3 (.t 4) (.t 9), none, none⟩,
   ⟨(some 5), .mv (.t 10), none, none⟩])
  .ret))
theorem PureN.pure {P : Program} {f : FuncId} {args : List AV} {r : AV} (h : PureN P f args r) (ha : ∀ x ∈ args, Closed x) (hr : Closed r) : PureC P f args r :=
  .of_callR (CallR.fresh_gen h (fun _ => none) (fun _ _ e => by cases e) rfl (fun j h1 h2 => .closed _ (ha _ (List.getElem_mem h1))) hr (.closed _ hr))
theorem closed_Det0 (d : Det) : Closed (encDet d) := .agg _ (by
  intro y hy
  simp only [List.mem_cons, List.not_mem_nil, or_false] at hy
  rcases hy with rfl | rfl | rfl
  · exact Z32 _
  · exact Z34 _
  · exact .sl _ _ (by intro y hy; obtain ⟨b, _, rfl⟩ := List.mem_map.mp hy; exact Z2z _))
def resD (kd : Kd) (n : Net) (most : Int) : Det × Int :=
  if rightN n = true ∧ 1 ≤ most ∧ most ≤ 3000 then (match dmakeF kd n most with
    | some st => (⟨n.signs, st.2.1, st.2.2⟩, 0)
    | none => (⟨0, [], []⟩, 13))
  else (⟨0, [], []⟩, 1)
def encDE (p : Det × Int) : AV := .tup [encDet p.1, encI p.2]
theorem encRes_eq (kd : Kd) (n : Net) (most : Int) : encRes kd n most = encDE (resD kd n most) := by
  unfold encRes resD
  split
  · cases dmakeF kd n most <;> rfl
  · rfl
theorem closed_DE (p : Det × Int) : Closed (encDE p) := .tup _ (by
  intro y hy
  simp only [List.mem_cons, List.not_mem_nil, or_false] at hy
  rcases hy with rfl | rfl
  · exact closed_Det0 _
  · exact Z32 _)
theorem det_Whole_body {P : Program} {f1 fb : FuncId} {n : Net} {most : Int} {p : Det × Int} (h : PureC P f1 [encNet n, encI most, .clo fb [] []] (encDE p)) : AW P (c_det_Whole f1 fb) (RetC [.c 4 (some 3), .t 5] (FzK (encDE p))) (argF [encNet n, encI most]) S0 := by
  have ec : (encNet n).cells = [encI n.signs, encIss n.by_, encIss n.follow, encIs n.last] := rfl
  have es : (encNet n).solid = true := rfl
  simp only [AV.solid] at es
  simp [Z0j, Z0e, Z0f, Z0b, Z0c, Z0k, Z0d, Z0h, Z0i, Z3a, Z39, Z08, Z0a, Z07, Z01, Z03, Z00, Z05, Z06, Z04, Z26, Z25, Z4q, Z4s, Z4r, Z4p, Z1u, Z1v, Z1t, Z40, Z3x, Z3z, Z3y, Z41, Z1s, Z2j, Z3d, Z4f, Z1k, Z1l, Z1m, Z4d, Z4e, Z1i, Z2i, Z1j, Z3v, Z3s, Z3u, Z3t, Z3w, Z4l, Z4k, Z0v, Z0w, Z0x, Z0u, Z1h, Z4w, Z4v, Z4x, Z4u, Z4t, ex, Z4n, Z4m, ev_t, ev_c, Z2h, Z2g, Z4y, Z4z, Z2x, Z2w, Z2q, Z2u, Z2v, Z2r, Z2s, Z2t, putc, exBslice, lfill, exField, exIdxV, exIdxP, exBox, exAlloc, exLoad, exStore, exFieldA, exIdxA, exLen, exPick, exUn, exBeq, exMM, exSeq, seqGo, exExt, binV, intOp, subc, AV.solid, S0, encI, encB, c_det_Whole, ec, es]
  refine CallR.pure h (cl_cons (closed_Net n) (cl_cons (Z32 _) (cl_cons (.clo _ _ _ cl_nil cl_nil) cl_nil))) (closed_DE p) ?_
  simp [Z0j, Z0e, Z0f, Z0b, Z0c, Z0k, Z0d, Z0h, Z0i, Z3a, Z39, Z08, Z0a, Z07, Z01, Z03, Z00, Z05, Z06, Z04, Z26, Z25, Z4q, Z4s, Z4r, Z4p, Z1u, Z1v, Z1t, Z40, Z3x, Z3z, Z3y, Z41, Z1s, Z2j, Z3d, Z4f, Z1k, Z1l, Z1m, Z4d, Z4e, Z1i, Z2i, Z1j, Z3v, Z3s, Z3u, Z3t, Z3w, Z4l, Z4k, Z0v, Z0w, Z0x, Z0u, Z1h, Z4w, Z4v, Z4x, Z4u, Z4t, ex, Z4n, Z4m, ev_t, ev_c, Z2h, Z2g, Z4y, Z4z, Z2x, Z2w, Z2q, Z2u, Z2v, Z2r, Z2s, Z2t, putc, exBslice, lfill, exField, exIdxV, exIdxP, exBox, exAlloc, exLoad, exStore, exFieldA, exIdxA, exLen, exPick, exUn, exBeq, exMM, exSeq, seqGo, exExt, binV, intOp, subc, AV.solid, S0, encI, encB, encDE, encDet, RetC, evC, RV.ev, ldC, packC]
  exact .closed _ (closed_DE p)
end Go.Rf

