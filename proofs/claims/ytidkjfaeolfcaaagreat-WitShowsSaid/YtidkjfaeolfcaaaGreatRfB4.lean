import Derived.Test.YtidkjfaeolfcaaaGreatRfB3
set_option linter.unusedVariables false
set_option linter.unusedSimpArgs false
namespace Go.Rf
def c_det_Right_1 : AC :=
  (.seq (.reg none [
   ⟨(some 3), .mv (.c (.v (.bool false))), none, none⟩])
  (.seq (.reg none [
   ⟨(some 4), .mv (.t 0), none, none⟩,
   ⟨(some 5), .bin .lss (.t 4) (.c (.v (.int .i64 0))), none, none⟩,
   ⟨(some 6), .mv (.t 5), none, none⟩,
   ⟨(some 7), .mv (.t 0), (some (6, false)), none⟩,
   ⟨(some 8), .load none (.t 1), (some (6, false)), none⟩,
   ⟨(some 9), .bin .geq (.t 7) (.t 8), (some (6, false)), none⟩,
   ⟨(some 10), .pick (.t 6) (.c (.v (.bool true))) (.t 9), none, none⟩,
   ⟨(some 3), .mv (.t 10), none, none⟩])
  .ret))
def c_det_Right_2 (f_slices_ContainsFunc_Sint_int_ : FuncId) : AC :=
  (.seq (.reg none [
   ⟨(some 4), .mv (.c (.v (.bool false))), none, none⟩])
  (.seq (.reg none [
   ⟨(some 5), .mv (.t 0), none, none⟩,
   ⟨(some 6), .len (.t 5), none, none⟩,
   ⟨(some 7), .fieldA 0 (.t 1), none, none⟩,
   ⟨(some 8), .load none (.t 7), none, none⟩,
   ⟨(some 9), .bin .neq (.t 6) (.t 8), none, none⟩,
   ⟨(some 10), .mv (.t 9), none, none⟩,
   ⟨(some 11), .mv (.t 0), (some (10, false)), none⟩,
   ⟨(some 12), .load none (.t 2), (some (10, false)), none⟩,
   ⟨(some 13), .mv (.c .junk), (some (10, false)), (some ((.c (.clo f_slices_ContainsFunc_Sint_int_ [] [])), [(.t 11), (.t 12)]))⟩,
   ⟨(some 14), .pick (.t 10) (.c (.v (.bool true))) (.t 13), none, none⟩,
   ⟨(some 4), .mv (.t 14), none, none⟩])
  .ret))
def c_det_Right (f_det_Right_1 f_det_Right_2 f_slices_ContainsFunc_SSint_Sint_ : FuncId) : AC :=
  (.seq (.reg none [
   ⟨(some 1), .box 3 (.t 0), none, none⟩,
   ⟨(some 2), .mv (.c (.v (.bool false))), none, none⟩])
  (.seq (.reg none [
   ⟨(some 5), .fieldA 1 (.t 1), none, none⟩,
   ⟨(some 6), .load none (.t 5), none, none⟩,
   ⟨(some 7), .len (.t 6), none, none⟩,
   ⟨(some 3), .alloc (.v (.int .i64 0)) 1, none, none⟩,
   ⟨none, .store 1 (.t 3) (.t 7), none, none⟩])
  (.seq (.seq (.reg none [
   ⟨(some 8), .fieldA 0 (.t 1), none, none⟩,
   ⟨(some 9), .load none (.t 8), none, none⟩,
   ⟨(some 10), .bin .lss (.t 9) (.c (.v (.int .i64 1))), none, none⟩,
   ⟨(some 11), .mv (.t 10), none, none⟩,
   ⟨(some 12), .fieldA 0 (.t 1), (some (11, false)), none⟩,
   ⟨(some 13), .load none (.t 12), (some (11, false)), none⟩,
   ⟨(some 14), .bin .gtr (.t 13) (.c (.v (.int .i64 400))), (some (11, false)), none⟩,
   ⟨(some 15), .pick (.t 11) (.c (.v (.bool true))) (.t 14), none, none⟩,
   ⟨(some 16), .mv (.t 15), none, none⟩,
   ⟨(some 17), .load none (.t 3), (some (16, false)), none⟩,
   ⟨(some 18), .bin .eql (.t 17) (.c (.v (.int .i64 0))), (some (16, false)), none⟩,
   ⟨(some 19), .pick (.t 16) (.c (.v (.bool true))) (.t 18), none, none⟩,
   ⟨(some 20), .mv (.t 19), none, none⟩,
   ⟨(some 21), .load none (.t 3), (some (20, false)), none⟩,
   ⟨(some 22), .bin .gtr (.t 21) (.c (.v (.int .i64 3000))), (some (20, false)), none⟩,
   ⟨(some 23), .pick (.t 20) (.c (.v (.bool true))) (.t 22), none, none⟩,
   ⟨(some 24), .mv (.t 23), none, none⟩,
   ⟨(some 25), .fieldA 2 (.t 1), (some (24, false)), none⟩,
   ⟨(some 26), .load none (.t 25), (some (24, false)), none⟩,
   ⟨(some 27), .len (.t 26), (some (24, false)), none⟩,
   ⟨(some 28), .load none (.t 3), (some (24, false)), none⟩,
   ⟨(some 29), .bin .neq (.t 27) (.t 28), (some (24, false)), none⟩,
   ⟨(some 30), .pick (.t 24) (.c (.v (.bool true))) (.t 29), none, none⟩])
  (.cond (.t 30) (.seq (.reg none [
    ⟨(some 2), .mv (.c (.v (.bool false))), none, none⟩])
   .ret) .skip))
  (.seq (.reg none [
   ⟨(some 31), .mkf f_det_Right_1 [] [(.t 3)], none, none⟩,
   ⟨(some 4), .alloc (.v .nilFunc) 1, none, none⟩,
   ⟨none, .store 1 (.t 4) (.t 31), none, none⟩])
  (.seq (.reg none [
   ⟨(some 32), .fieldA 1 (.t 1), none, none⟩,
   ⟨(some 33), .load none (.t 32), none, none⟩,
   ⟨(some 34), .mkf f_det_Right_2 [] [(.t 1), (.t 4)], none, none⟩,
   ⟨(some 35), .mv (.c .junk), none, (some ((.c (.clo f_slices_ContainsFunc_SSint_Sint_ [] [])), [(.t 33), (.t 34)]))⟩,
   ⟨(some 36), .un .not (.t 35), none, none⟩,
   ⟨(some 2), .mv (.t 36), none, none⟩])
  .ret)))))
def outB (k : Nat) (t : Int) : Bool := decide (t < 0) || decide ((k : Int) ≤ t)
theorem det_Right_1_body (P : Program) (t : Int) (k : Nat) : AW P c_det_Right_1 (RetK [3] (FzK (encB (outB k t)))) (argF [encI t, .eptr (encI k) 0]) S0 := by
  by_cases h1 : t < 0
  · simp [Z0h, Z0c, Z0d, Z09, Z0a, Z0i, Z0b, Z0f, Z0g, Z2z, Z2y, Z07, Z08, Z06, Z01, Z02, Z00, Z04, Z05, Z03, Z1z, Z1y, Z46, Z48, Z47, Z45, Z1n, Z1o, Z1m, Z3n, Z3k, Z3m, Z3l, Z3o, Z1l, Z29, Z32, Z3x, Z1i, Z1j, Z1k, Z3v, Z3w, Z1g, Z28, Z1h, Z3i, Z3f, Z3h, Z3g, Z3j, Z41, Z40, Z0t, Z0u, Z0v, Z0s, Z1f, Z4c, Z4b, Z4d, Z4a, Z49, ex, Z43, Z42, ev_t, ev_c, Z27, Z26, Z4e, Z4f, Z2m, Z2l, Z2f, Z2j, Z2k, Z2g, Z2h, Z2i, putc, exBslice, lfill, exField, exIdxV, exIdxP, exBox, exAlloc, exLoad, exStore, exFieldA, exIdxA, exLen, exPick, exUn, exBeq, exMM, exSeq, seqGo, exExt, binV, intOp, subc, AV.solid, S0, encI, encB, c_det_Right_1, h1, outB]
    exact FzK_B true _
  · simp [Z0h, Z0c, Z0d, Z09, Z0a, Z0i, Z0b, Z0f, Z0g, Z2z, Z2y, Z07, Z08, Z06, Z01, Z02, Z00, Z04, Z05, Z03, Z1z, Z1y, Z46, Z48, Z47, Z45, Z1n, Z1o, Z1m, Z3n, Z3k, Z3m, Z3l, Z3o, Z1l, Z29, Z32, Z3x, Z1i, Z1j, Z1k, Z3v, Z3w, Z1g, Z28, Z1h, Z3i, Z3f, Z3h, Z3g, Z3j, Z41, Z40, Z0t, Z0u, Z0v, Z0s, Z1f, Z4c, Z4b, Z4d, Z4a, Z49, ex, Z43, Z42, ev_t, ev_c, Z27, Z26, Z4e, Z4f, Z2m, Z2l, Z2f, Z2j, Z2k, Z2g, Z2h, Z2i, putc, exBslice, lfill, exField, exIdxV, exIdxP, exBox, exAlloc, exLoad, exStore, exFieldA, exIdxA, exLen, exPick, exUn, exBeq, exMM, exSeq, seqGo, exExt, binV, intOp, subc, AV.solid, S0, encI, encB, c_det_Right_1, h1, outB]
    exact FzK_B _ _
def oddRow (d : Det) (r : List Int) : Bool := ((r.length : Int) != d.signs) || r.any (outB d.next.length)
theorem det_Right_2_body {P : Program} {f1 fc : FuncId} (d : Det) (r : List Int) (hc : PureC P fc [encIs r, .clo f1 [] [.eptr (encI d.next.length) 0]] (encB (r.any (outB d.next.length)))) :
    AW P (c_det_Right_2 fc) (RetK [4] (FzK (encB (oddRow d r)))) (argF [encIs r, .eptr (encDet d) 0, .eptr (.clo f1 [] [.eptr (encI d.next.length) 0]) 0]) S0 := by
  cases h1 : ((r.length : Int) != d.signs) with
  | true =>
    simp [Z0h, Z0c, Z0d, Z09, Z0a, Z0i, Z0b, Z0f, Z0g, Z2z, Z2y, Z07, Z08, Z06, Z01, Z02, Z00, Z04, Z05, Z03, Z1z, Z1y, Z46, Z48, Z47, Z45, Z1n, Z1o, Z1m, Z3n, Z3k, Z3m, Z3l, Z3o, Z1l, Z29, Z32, Z3x, Z1i, Z1j, Z1k, Z3v, Z3w, Z1g, Z28, Z1h, Z3i, Z3f, Z3h, Z3g, Z3j, Z41, Z40, Z0t, Z0u, Z0v, Z0s, Z1f, Z4c, Z4b, Z4d, Z4a, Z49, ex, Z43, Z42, ev_t, ev_c, Z27, Z26, Z4e, Z4f, Z2m, Z2l, Z2f, Z2j, Z2k, Z2g, Z2h, Z2i, putc, exBslice, lfill, exField, exIdxV, exIdxP, exBox, exAlloc, exLoad, exStore, exFieldA, exIdxA, exLen, exPick, exUn, exBeq, exMM, exSeq, seqGo, exExt, binV, intOp, subc, AV.solid, S0, encI, encB, c_det_Right_2, encIs, encDet, h1, oddRow]
    exact FzK_B true _
  | false =>
    simp [Z0h, Z0c, Z0d, Z09, Z0a, Z0i, Z0b, Z0f, Z0g, Z2z, Z2y, Z07, Z08, Z06, Z01, Z02, Z00, Z04, Z05, Z03, Z1z, Z1y, Z46, Z48, Z47, Z45, Z1n, Z1o, Z1m, Z3n, Z3k, Z3m, Z3l, Z3o, Z1l, Z29, Z32, Z3x, Z1i, Z1j, Z1k, Z3v, Z3w, Z1g, Z28, Z1h, Z3i, Z3f, Z3h, Z3g, Z3j, Z41, Z40, Z0t, Z0u, Z0v, Z0s, Z1f, Z4c, Z4b, Z4d, Z4a, Z49, ex, Z43, Z42, ev_t, ev_c, Z27, Z26, Z4e, Z4f, Z2m, Z2l, Z2f, Z2j, Z2k, Z2g, Z2h, Z2i, putc, exBslice, lfill, exField, exIdxV, exIdxP, exBox, exAlloc, exLoad, exStore, exFieldA, exIdxA, exLen, exPick, exUn, exBeq, exMM, exSeq, seqGo, exExt, binV, intOp, subc, AV.solid, S0, encI, encB, c_det_Right_2, encIs, encDet, h1, oddRow]
    refine CallR.pure hc (cl_cons (Z2s r) (cl_cons (.clo _ _ _ cl_nil (cl_cons (.eptr _ _ (Z2r _)) cl_nil)) cl_nil)) (Z2o _) ?_
    simp [Z0h, Z0c, Z0d, Z09, Z0a, Z0i, Z0b, Z0f, Z0g, Z2z, Z2y, Z07, Z08, Z06, Z01, Z02, Z00, Z04, Z05, Z03, Z1z, Z1y, Z46, Z48, Z47, Z45, Z1n, Z1o, Z1m, Z3n, Z3k, Z3m, Z3l, Z3o, Z1l, Z29, Z32, Z3x, Z1i, Z1j, Z1k, Z3v, Z3w, Z1g, Z28, Z1h, Z3i, Z3f, Z3h, Z3g, Z3j, Z41, Z40, Z0t, Z0u, Z0v, Z0s, Z1f, Z4c, Z4b, Z4d, Z4a, Z49, ex, Z43, Z42, ev_t, ev_c, Z27, Z26, Z4e, Z4f, Z2m, Z2l, Z2f, Z2j, Z2k, Z2g, Z2h, Z2i, putc, exBslice, lfill, exField, exIdxV, exIdxP, exBox, exAlloc, exLoad, exStore, exFieldA, exIdxA, exLen, exPick, exUn, exBeq, exMM, exSeq, seqGo, exExt, binV, intOp, subc, AV.solid, S0, encI, encB]
    exact FzK_B _ _
theorem rowOk_odd (d : Det) (r : List Int) : rowOk d r = !oddRow d r := by
  unfold rowOk oddRow
  rw [Bool.not_or, List.not_any_eq_all_not]
  congr 1
  · by_cases h : (r.length : Int) = d.signs <;> simp [h]
  · congr 1; funext t
    unfold outB
    by_cases h1 : t < 0 <;> by_cases h2 : (d.next.length : Int) ≤ t <;> simp [h1, h2] <;> omega
theorem det_Right_body {P : Program} {f1 f2 fc : FuncId} (d : Det) (ok : DetOk d)
    (hc : PureC P fc [encIss d.next, .clo f2 [] [.eptr (encDet d) 0, .eptr (.clo f1 [] [.eptr (encI d.next.length) 0]) 0]] (encB (d.next.any (oddRow d)))) :
    AW P (c_det_Right f1 f2 fc) (RetK [2] (FzK (encB (rightD d)))) (argF [encDet d]) S0 := by
  have k1 := ok.next
  have k2 := ok.fin
  have k3 := ok.signs
  unfold Len at k1 k2
  by_cases h1 : d.signs < 1
  · have hr : rightD d = false := by simp [rightD]; omega
    simp [Z0h, Z0c, Z0d, Z09, Z0a, Z0i, Z0b, Z0f, Z0g, Z2z, Z2y, Z07, Z08, Z06, Z01, Z02, Z00, Z04, Z05, Z03, Z1z, Z1y, Z46, Z48, Z47, Z45, Z1n, Z1o, Z1m, Z3n, Z3k, Z3m, Z3l, Z3o, Z1l, Z29, Z32, Z3x, Z1i, Z1j, Z1k, Z3v, Z3w, Z1g, Z28, Z1h, Z3i, Z3f, Z3h, Z3g, Z3j, Z41, Z40, Z0t, Z0u, Z0v, Z0s, Z1f, Z4c, Z4b, Z4d, Z4a, Z49, ex, Z43, Z42, ev_t, ev_c, Z27, Z26, Z4e, Z4f, Z2m, Z2l, Z2f, Z2j, Z2k, Z2g, Z2h, Z2i, putc, exBslice, lfill, exField, exIdxV, exIdxP, exBox, exAlloc, exLoad, exStore, exFieldA, exIdxA, exLen, exPick, exUn, exBeq, exMM, exSeq, seqGo, exExt, binV, intOp, subc, AV.solid, S0, encI, encB, c_det_Right, encDet, encIss, encBs, h1, hr]
    exact FzK_B false _
  by_cases h2 : 400 < d.signs
  · have hr : rightD d = false := by simp [rightD]; omega
    simp [Z0h, Z0c, Z0d, Z09, Z0a, Z0i, Z0b, Z0f, Z0g, Z2z, Z2y, Z07, Z08, Z06, Z01, Z02, Z00, Z04, Z05, Z03, Z1z, Z1y, Z46, Z48, Z47, Z45, Z1n, Z1o, Z1m, Z3n, Z3k, Z3m, Z3l, Z3o, Z1l, Z29, Z32, Z3x, Z1i, Z1j, Z1k, Z3v, Z3w, Z1g, Z28, Z1h, Z3i, Z3f, Z3h, Z3g, Z3j, Z41, Z40, Z0t, Z0u, Z0v, Z0s, Z1f, Z4c, Z4b, Z4d, Z4a, Z49, ex, Z43, Z42, ev_t, ev_c, Z27, Z26, Z4e, Z4f, Z2m, Z2l, Z2f, Z2j, Z2k, Z2g, Z2h, Z2i, putc, exBslice, lfill, exField, exIdxV, exIdxP, exBox, exAlloc, exLoad, exStore, exFieldA, exIdxA, exLen, exPick, exUn, exBeq, exMM, exSeq, seqGo, exExt, binV, intOp, subc, AV.solid, S0, encI, encB, c_det_Right, encDet, encIss, encBs, h1, h2, hr]
    exact FzK_B false _
  by_cases h3 : (d.next.length : Int) = 0
  · have hr : rightD d = false := by simp [rightD]; omega
    have hc : ((d.next.length : Int) == 0) = true := by simp [h3]
    simp [Z0h, Z0c, Z0d, Z09, Z0a, Z0i, Z0b, Z0f, Z0g, Z2z, Z2y, Z07, Z08, Z06, Z01, Z02, Z00, Z04, Z05, Z03, Z1z, Z1y, Z46, Z48, Z47, Z45, Z1n, Z1o, Z1m, Z3n, Z3k, Z3m, Z3l, Z3o, Z1l, Z29, Z32, Z3x, Z1i, Z1j, Z1k, Z3v, Z3w, Z1g, Z28, Z1h, Z3i, Z3f, Z3h, Z3g, Z3j, Z41, Z40, Z0t, Z0u, Z0v, Z0s, Z1f, Z4c, Z4b, Z4d, Z4a, Z49, ex, Z43, Z42, ev_t, ev_c, Z27, Z26, Z4e, Z4f, Z2m, Z2l, Z2f, Z2j, Z2k, Z2g, Z2h, Z2i, putc, exBslice, lfill, exField, exIdxV, exIdxP, exBox, exAlloc, exLoad, exStore, exFieldA, exIdxA, exLen, exPick, exUn, exBeq, exMM, exSeq, seqGo, exExt, binV, intOp, subc, AV.solid, S0, encI, encB, c_det_Right, encDet, encIss, encBs, h1, h2, hc, hr]
    exact FzK_B false _
  have hc3 : ((d.next.length : Int) == 0) = false := by simpa using h3
  by_cases h4 : (3000 : Int) < d.next.length
  · have hr : rightD d = false := by simp [rightD]; omega
    simp [Z0h, Z0c, Z0d, Z09, Z0a, Z0i, Z0b, Z0f, Z0g, Z2z, Z2y, Z07, Z08, Z06, Z01, Z02, Z00, Z04, Z05, Z03, Z1z, Z1y, Z46, Z48, Z47, Z45, Z1n, Z1o, Z1m, Z3n, Z3k, Z3m, Z3l, Z3o, Z1l, Z29, Z32, Z3x, Z1i, Z1j, Z1k, Z3v, Z3w, Z1g, Z28, Z1h, Z3i, Z3f, Z3h, Z3g, Z3j, Z41, Z40, Z0t, Z0u, Z0v, Z0s, Z1f, Z4c, Z4b, Z4d, Z4a, Z49, ex, Z43, Z42, ev_t, ev_c, Z27, Z26, Z4e, Z4f, Z2m, Z2l, Z2f, Z2j, Z2k, Z2g, Z2h, Z2i, putc, exBslice, lfill, exField, exIdxV, exIdxP, exBox, exAlloc, exLoad, exStore, exFieldA, exIdxA, exLen, exPick, exUn, exBeq, exMM, exSeq, seqGo, exExt, binV, intOp, subc, AV.solid, S0, encI, encB, c_det_Right, encDet, encIss, encBs, h1, h2, hc3, h4, hr]
    exact FzK_B false _
  by_cases h5 : d.fin.length = d.next.length
  · have hc5 : ((d.fin.length : Int) != d.next.length) = false := by simp [h5]
    have hr : rightD d = !d.next.any (oddRow d) := by
      rw [List.not_any_eq_all_not]
      have : d.next.all (rowOk d) = d.next.all (fun r => !oddRow d r) := by congr 1; funext r; exact rowOk_odd d r
      rw [rightD, this]
      have a1 : decide (1 ≤ d.signs) = true := by simp; omega
      have a2 : decide (d.signs ≤ 400) = true := by simp; omega
      have a3 : decide (1 ≤ d.next.length) = true := by simp; omega
      have a4 : decide (d.next.length ≤ 3000) = true := by simp; omega
      simp [a1, a2, a3, a4, h5]
    simp [Z0h, Z0c, Z0d, Z09, Z0a, Z0i, Z0b, Z0f, Z0g, Z2z, Z2y, Z07, Z08, Z06, Z01, Z02, Z00, Z04, Z05, Z03, Z1z, Z1y, Z46, Z48, Z47, Z45, Z1n, Z1o, Z1m, Z3n, Z3k, Z3m, Z3l, Z3o, Z1l, Z29, Z32, Z3x, Z1i, Z1j, Z1k, Z3v, Z3w, Z1g, Z28, Z1h, Z3i, Z3f, Z3h, Z3g, Z3j, Z41, Z40, Z0t, Z0u, Z0v, Z0s, Z1f, Z4c, Z4b, Z4d, Z4a, Z49, ex, Z43, Z42, ev_t, ev_c, Z27, Z26, Z4e, Z4f, Z2m, Z2l, Z2f, Z2j, Z2k, Z2g, Z2h, Z2i, putc, exBslice, lfill, exField, exIdxV, exIdxP, exBox, exAlloc, exLoad, exStore, exFieldA, exIdxA, exLen, exPick, exUn, exBeq, exMM, exSeq, seqGo, exExt, binV, intOp, subc, AV.solid, S0, encI, encB, c_det_Right, encDet, encIss, encBs, h1, h2, hc3, h4, hc5]
    refine CallR.looks hc (FzL.cons (.closed _ (Z2t _)) (FzL.cons (.clo0 (FzL.cons (.box _ _ 3 (encDet d) _ ?_ (.closed _ (closed_Det d))) (FzL.cons (.box _ _ 1 (.clo f1 [] [.ptr 5 0 0]) _ ?_ (.clo0 (FzL.cons (.box _ _ 1 (encI d.next.length) _ ?_ (.closed _ (Z2r _))) FzL.nil))) FzL.nil))) FzL.nil)) (plain_B _) ?_
    · simp [Z4e, encDet, encIss, encBs, encI]
    · simp [Z4e]
    · simp [Z4e, encI]
    · simp [Z0h, Z0c, Z0d, Z09, Z0a, Z0i, Z0b, Z0f, Z0g, Z2z, Z2y, Z07, Z08, Z06, Z01, Z02, Z00, Z04, Z05, Z03, Z1z, Z1y, Z46, Z48, Z47, Z45, Z1n, Z1o, Z1m, Z3n, Z3k, Z3m, Z3l, Z3o, Z1l, Z29, Z32, Z3x, Z1i, Z1j, Z1k, Z3v, Z3w, Z1g, Z28, Z1h, Z3i, Z3f, Z3h, Z3g, Z3j, Z41, Z40, Z0t, Z0u, Z0v, Z0s, Z1f, Z4c, Z4b, Z4d, Z4a, Z49, ex, Z43, Z42, ev_t, ev_c, Z27, Z26, Z4e, Z4f, Z2m, Z2l, Z2f, Z2j, Z2k, Z2g, Z2h, Z2i, putc, exBslice, lfill, exField, exIdxV, exIdxP, exBox, exAlloc, exLoad, exStore, exFieldA, exIdxA, exLen, exPick, exUn, exBeq, exMM, exSeq, seqGo, exExt, binV, intOp, subc, AV.solid, S0, encI, encB, hr]
      exact FzK_B _ _
  · have hr : rightD d = false := by simp [rightD]; omega
    have hc5 : ((d.fin.length : Int) != d.next.length) = true := by simp; omega
    simp [Z0h, Z0c, Z0d, Z09, Z0a, Z0i, Z0b, Z0f, Z0g, Z2z, Z2y, Z07, Z08, Z06, Z01, Z02, Z00, Z04, Z05, Z03, Z1z, Z1y, Z46, Z48, Z47, Z45, Z1n, Z1o, Z1m, Z3n, Z3k, Z3m, Z3l, Z3o, Z1l, Z29, Z32, Z3x, Z1i, Z1j, Z1k, Z3v, Z3w, Z1g, Z28, Z1h, Z3i, Z3f, Z3h, Z3g, Z3j, Z41, Z40, Z0t, Z0u, Z0v, Z0s, Z1f, Z4c, Z4b, Z4d, Z4a, Z49, ex, Z43, Z42, ev_t, ev_c, Z27, Z26, Z4e, Z4f, Z2m, Z2l, Z2f, Z2j, Z2k, Z2g, Z2h, Z2i, putc, exBslice, lfill, exField, exIdxV, exIdxP, exBox, exAlloc, exLoad, exStore, exFieldA, exIdxA, exLen, exPick, exUn, exBeq, exMM, exSeq, seqGo, exExt, binV, intOp, subc, AV.solid, S0, encI, encB, c_det_Right, encDet, encIss, encBs, h1, h2, hc3, h4, hc5, hr]
    exact FzK_B false _
end Go.Rf

