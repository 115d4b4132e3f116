import Derived.Test.YtidkjfaeolfcaaaGreatRfCell
set_option linter.unusedVariables false
set_option linter.unusedSimpArgs false
namespace Go.Rf
def c_caesuraref15_Accepts (f_caesuraref15_Run : FuncId) : AC :=
  (.seq (.reg none [
   ⟨(some 2), .box 3 (.t 0), none, none⟩,
   ⟨(some 4), .mv (.c (.v (.bool false))), none, none⟩])
  (.seq (.reg none [
   ⟨(some 6), .load (some 3) (.t 2), none, none⟩,
   ⟨(some 7), .mv (.t 1), none, none⟩,
   ⟨(some 8), .mv (.c .junk), none, (some ((.c (.clo f_caesuraref15_Run [] [])), [(.t 6), (.t 7)]))⟩,
   ⟨(some 5), .mv (.t 8), none, none⟩])
  (.seq (.reg none [
   ⟨(some 9), .mv (.t 5), none, none⟩,
   ⟨(some 10), .bin .geq (.t 9) (.c (.v (.int .i64 0))), none, none⟩,
   ⟨(some 11), .mv (.t 10), none, none⟩,
   ⟨(some 12), .fieldA 2 (.t 2), (some (11, true)), none⟩,
   ⟨(some 13), .load none (.t 12), (some (11, true)), none⟩,
   ⟨(some 14), .mv (.t 5), (some (11, true)), none⟩,
   ⟨(some 15), .idxA 1 (.t 13) (.t 14), (some (11, true)), none⟩,
   ⟨(some 16), .load none (.t 15), (some (11, true)), none⟩,
   ⟨(some 17), .pick (.t 11) (.t 16) (.c (.v (.bool false))), none, none⟩,
   ⟨(some 4), .mv (.t 17), none, none⟩])
  .ret)))
def c_det_Run (f_det_Right : FuncId) : AC :=
  (.seq (.reg none [
   ⟨(some 2), .box 3 (.t 0), none, none⟩,
   ⟨(some 4), .mv (.c (.v (.int .i64 0))), none, none⟩])
  (.seq (.seq (.reg none [
   ⟨(some 8), .load (some 3) (.t 2), none, none⟩,
   ⟨(some 9), .mv (.c .junk), none, (some ((.c (.clo f_det_Right [] [])), [(.t 8)]))⟩,
   ⟨(some 10), .un .not (.t 9), none, none⟩])
  (.cond (.t 10) (.seq (.reg none [
    ⟨(some 4), .mv (.c (.v (.int .i64 (-1)))), none, none⟩])
   .ret) .skip))
  (.seq (.reg none [
   ⟨(some 5), .mv (.c (.v (.int .i64 0))), none, none⟩])
  (.seq (.seq (.reg none [
   ⟨(some 11), .mv (.t 1), none, none⟩,
   ⟨(some 12), .len (.t 11), none, none⟩,
   ⟨(some 13), .mv (.c (.v (.int .i64 0))), none, none⟩])
  (.block 0 (.loop (.seq (.reg none [
     ⟨(some 14), .bin .lss (.t 13) (.t 12), none, none⟩])
    (.seq (.cond (.t 14) .skip (.exit 0))
    (.seq (.block 1 (.seq (.reg none [
      ⟨(some 15), .idxA 1 (.t 11) (.t 13), none, none⟩,
      ⟨(some 16), .load none (.t 15), none, none⟩,
      ⟨(some 7), .mv (.t 16), none, none⟩])
     (.seq (.seq (.reg none [
      ⟨(some 17), .mv (.t 7), none, none⟩,
      ⟨(some 18), .bin .lss (.t 17) (.c (.v (.int .i64 0))), none, none⟩,
      ⟨(some 19), .mv (.t 18), none, none⟩,
      ⟨(some 20), .mv (.t 7), (some (19, false)), none⟩,
      ⟨(some 21), .fieldA 0 (.t 2), (some (19, false)), none⟩,
      ⟨(some 22), .load none (.t 21), (some (19, false)), none⟩,
      ⟨(some 23), .bin .geq (.t 20) (.t 22), (some (19, false)), none⟩,
      ⟨(some 24), .pick (.t 19) (.c (.v (.bool true))) (.t 23), none, none⟩])
     (.cond (.t 24) (.seq (.reg none [
       ⟨(some 4), .mv (.c (.v (.int .i64 (-1)))), none, none⟩])
      .ret) .skip))
     (.reg none [
      ⟨(some 25), .fieldA 1 (.t 2), none, none⟩,
      ⟨(some 26), .load none (.t 25), none, none⟩,
      ⟨(some 27), .mv (.t 5), none, none⟩,
      ⟨(some 28), .idxA 1 (.t 26) (.t 27), none, none⟩,
      ⟨(some 29), .load none (.t 28), none, none⟩,
      ⟨(some 30), .mv (.t 7), none, none⟩,
      ⟨(some 31), .idxA 1 (.t 29) (.t 30), none, none⟩,
      ⟨(some 32), .load none (.t 31), none, none⟩,
      ⟨(some 5), .mv (.t 32), none, none⟩]))))
    (.reg none [
     ⟨(some 33), .bin .add (.t 13) (.c (.v (.int .i64 1))), none, none⟩,
     ⟨(some 13), .mv (.t 33), none, none⟩])))))))
  (.seq (.reg none [
   ⟨(some 34), .mv (.t 5), none, none⟩,
   ⟨(some 4), .mv (.t 34), none, none⟩])
  .ret)))))
def runJ (d : Det) (l : List Int) (m : Nat) (f : AF) (S : St) : Prop :=
  ∃ i a : Nat, i ≤ l.length ∧ m = l.length - i ∧ a < d.next.length ∧ f 13 = encI i ∧ f 12 = encI l.length ∧ f 11 = encIs l ∧ f 5 = encI a ∧ f 2 = .ptr 0 0 0 ∧ S.g 0 = some (.arr 3 [encDet d]) ∧ runFrom d 0 l = runFrom d a (l.drop i)
theorem det_Run_body {P : Program} {fr : FuncId} (d : Det) (l : List Int) (hl : Len l) (hr : PureC P fr [encDet d] (encB (rightD d))) :
    AW P (c_det_Run fr) (RetK [4] (FzK (encI (numO (runD d l))))) (argF [encDet d, encIs l]) S0 := by
  unfold Len at hl
  simp [Z0h, Z0c, Z0d, Z09, Z0a, Z0i, Z0b, Z0f, Z0g, Z2z, Z2y, Z07, Z08, Z06, Z01, Z02, Z00, Z04, Z05, Z03, Z1z, Z1y, Z46, Z48, Z47, Z45, Z1n, Z1o, Z1m, Z3n, Z3k, Z3m, Z3l, Z3o, Z1l, Z29, Z32, Z3x, Z1i, Z1j, Z1k, Z3v, Z3w, Z1g, Z28, Z1h, Z3i, Z3f, Z3h, Z3g, Z3j, Z41, Z40, Z0t, Z0u, Z0v, Z0s, Z1f, Z4c, Z4b, Z4d, Z4a, Z49, ex, Z43, Z42, ev_t, ev_c, Z27, Z26, Z4e, Z4f, Z2m, Z2l, Z2f, Z2j, Z2k, Z2g, Z2h, Z2i, putc, exBslice, lfill, exField, exIdxV, exIdxP, exBox, exAlloc, exLoad, exStore, exFieldA, exIdxA, exLen, exPick, exUn, exBeq, exMM, exSeq, seqGo, exExt, binV, intOp, subc, AV.solid, S0, encI, encB, c_det_Run, encDet, encIss, encBs]
  refine CallR.pure hr (cl_cons (closed_Det d) cl_nil) (Z2o _) ?_
  cases hrd : rightD d with
  | false =>
    have hres : numO (runD d l) = -1 := by simp [runD, hrd, numO]
    simp [Z0h, Z0c, Z0d, Z09, Z0a, Z0i, Z0b, Z0f, Z0g, Z2z, Z2y, Z07, Z08, Z06, Z01, Z02, Z00, Z04, Z05, Z03, Z1z, Z1y, Z46, Z48, Z47, Z45, Z1n, Z1o, Z1m, Z3n, Z3k, Z3m, Z3l, Z3o, Z1l, Z29, Z32, Z3x, Z1i, Z1j, Z1k, Z3v, Z3w, Z1g, Z28, Z1h, Z3i, Z3f, Z3h, Z3g, Z3j, Z41, Z40, Z0t, Z0u, Z0v, Z0s, Z1f, Z4c, Z4b, Z4d, Z4a, Z49, ex, Z43, Z42, ev_t, ev_c, Z27, Z26, Z4e, Z4f, Z2m, Z2l, Z2f, Z2j, Z2k, Z2g, Z2h, Z2i, putc, exBslice, lfill, exField, exIdxV, exIdxP, exBox, exAlloc, exLoad, exStore, exFieldA, exIdxA, exLen, exPick, exUn, exBeq, exMM, exSeq, seqGo, exExt, binV, intOp, subc, AV.solid, S0, encI, encB, hres]
    exact FzK_I _ _
  | true =>
    have R := (right_iff d).mp hrd
    have hn := R.n1
    have hres : runD d l = runFrom d 0 l := by simp [runD, hrd]
    rw [hres]
    simp [Z0h, Z0c, Z0d, Z09, Z0a, Z0i, Z0b, Z0f, Z0g, Z2z, Z2y, Z07, Z08, Z06, Z01, Z02, Z00, Z04, Z05, Z03, Z1z, Z1y, Z46, Z48, Z47, Z45, Z1n, Z1o, Z1m, Z3n, Z3k, Z3m, Z3l, Z3o, Z1l, Z29, Z32, Z3x, Z1i, Z1j, Z1k, Z3v, Z3w, Z1g, Z28, Z1h, Z3i, Z3f, Z3h, Z3g, Z3j, Z41, Z40, Z0t, Z0u, Z0v, Z0s, Z1f, Z4c, Z4b, Z4d, Z4a, Z49, ex, Z43, Z42, ev_t, ev_c, Z27, Z26, Z4e, Z4f, Z2m, Z2l, Z2f, Z2j, Z2k, Z2g, Z2h, Z2i, putc, exBslice, lfill, exField, exIdxV, exIdxP, exBox, exAlloc, exLoad, exStore, exFieldA, exIdxA, exLen, exPick, exUn, exBeq, exMM, exSeq, seqGo, exExt, binV, intOp, subc, AV.solid, S0, encI, encB, encIs]
    refine AW_loop (runJ d l) l.length ?_ ?_
    · refine ⟨0, 0, by omega, by omega, by omega, ?_, ?_, ?_, ?_, ?_, ?_, by simp⟩ <;> simp [Z43, Z27, Z26, encI, encIs, encDet, encIss, encBs, Z4e]
    · rintro m f S ⟨i, a, hi, rfl, ha, e13, e12, e11, e5, e2, eg, hq⟩
      by_cases hlt : i < l.length
      · rw [List.drop_eq_getElem_cons hlt, runFrom] at hq
        by_cases h0 : l[i] < 0
        · rw [if_neg (by omega)] at hq
          simp [Z0h, Z0c, Z0d, Z09, Z0a, Z0i, Z0b, Z0f, Z0g, Z2z, Z2y, Z07, Z08, Z06, Z01, Z02, Z00, Z04, Z05, Z03, Z1z, Z1y, Z46, Z48, Z47, Z45, Z1n, Z1o, Z1m, Z3n, Z3k, Z3m, Z3l, Z3o, Z1l, Z29, Z32, Z3x, Z1i, Z1j, Z1k, Z3v, Z3w, Z1g, Z28, Z1h, Z3i, Z3f, Z3h, Z3g, Z3j, Z41, Z40, Z0t, Z0u, Z0v, Z0s, Z1f, Z4c, Z4b, Z4d, Z4a, Z49, ex, Z43, Z42, ev_t, ev_c, Z27, Z26, Z4e, Z4f, Z2m, Z2l, Z2f, Z2j, Z2k, Z2g, Z2h, Z2i, putc, exBslice, lfill, exField, exIdxV, exIdxP, exBox, exAlloc, exLoad, exStore, exFieldA, exIdxA, exLen, exPick, exUn, exBeq, exMM, exSeq, seqGo, exExt, binV, intOp, subc, AV.solid, S0, encI, encB, e13, e12, e11, e5, e2, eg, encIs, encDet, encIss, encBs, hlt, h0, hq, numO]
          exact FzK_I _ _
        by_cases hs : d.signs ≤ l[i]
        · rw [if_neg (by omega)] at hq
          simp [Z0h, Z0c, Z0d, Z09, Z0a, Z0i, Z0b, Z0f, Z0g, Z2z, Z2y, Z07, Z08, Z06, Z01, Z02, Z00, Z04, Z05, Z03, Z1z, Z1y, Z46, Z48, Z47, Z45, Z1n, Z1o, Z1m, Z3n, Z3k, Z3m, Z3l, Z3o, Z1l, Z29, Z32, Z3x, Z1i, Z1j, Z1k, Z3v, Z3w, Z1g, Z28, Z1h, Z3i, Z3f, Z3h, Z3g, Z3j, Z41, Z40, Z0t, Z0u, Z0v, Z0s, Z1f, Z4c, Z4b, Z4d, Z4a, Z49, ex, Z43, Z42, ev_t, ev_c, Z27, Z26, Z4e, Z4f, Z2m, Z2l, Z2f, Z2j, Z2k, Z2g, Z2h, Z2i, putc, exBslice, lfill, exField, exIdxV, exIdxP, exBox, exAlloc, exLoad, exStore, exFieldA, exIdxA, exLen, exPick, exUn, exBeq, exMM, exSeq, seqGo, exExt, binV, intOp, subc, AV.solid, S0, encI, encB, e13, e12, e11, e5, e2, eg, encIs, encDet, encIss, encBs, hlt, h0, hs, hq, numO]
          exact FzK_I _ _
        rw [if_pos (by omega)] at hq
        obtain ⟨hj, hst, hsl⟩ := step_at R ha (s := l[i]) (by omega) (by omega)
        have h0' : 0 ≤ l[i] := by omega
        simp [Z0h, Z0c, Z0d, Z09, Z0a, Z0i, Z0b, Z0f, Z0g, Z2z, Z2y, Z07, Z08, Z06, Z01, Z02, Z00, Z04, Z05, Z03, Z1z, Z1y, Z46, Z48, Z47, Z45, Z1n, Z1o, Z1m, Z3n, Z3k, Z3m, Z3l, Z3o, Z1l, Z29, Z32, Z3x, Z1i, Z1j, Z1k, Z3v, Z3w, Z1g, Z28, Z1h, Z3i, Z3f, Z3h, Z3g, Z3j, Z41, Z40, Z0t, Z0u, Z0v, Z0s, Z1f, Z4c, Z4b, Z4d, Z4a, Z49, ex, Z43, Z42, ev_t, ev_c, Z27, Z26, Z4e, Z4f, Z2m, Z2l, Z2f, Z2j, Z2k, Z2g, Z2h, Z2i, putc, exBslice, lfill, exField, exIdxV, exIdxP, exBox, exAlloc, exLoad, exStore, exFieldA, exIdxA, exLen, exPick, exUn, exBeq, exMM, exSeq, seqGo, exExt, binV, intOp, subc, AV.solid, S0, encI, encB, e13, e12, e11, e5, e2, eg, encIs, encDet, encIss, encBs, hlt, h0, hs, ha, hj, hst, h0']
        rw [wrap_in _ (by omega)]
        refine ⟨l.length - (i + 1), by omega, i + 1, stepD d a l[i], by omega, rfl, hsl, ?_, ?_, ?_, ?_, ?_, ?_, hq⟩ <;> simp [Z43, e13, e12, e11, e5, e2, eg, encI, encIs, encDet, encIss, encBs]
      · rw [List.drop_of_length_le (by omega), runFrom] at hq
        simp [Z0h, Z0c, Z0d, Z09, Z0a, Z0i, Z0b, Z0f, Z0g, Z2z, Z2y, Z07, Z08, Z06, Z01, Z02, Z00, Z04, Z05, Z03, Z1z, Z1y, Z46, Z48, Z47, Z45, Z1n, Z1o, Z1m, Z3n, Z3k, Z3m, Z3l, Z3o, Z1l, Z29, Z32, Z3x, Z1i, Z1j, Z1k, Z3v, Z3w, Z1g, Z28, Z1h, Z3i, Z3f, Z3h, Z3g, Z3j, Z41, Z40, Z0t, Z0u, Z0v, Z0s, Z1f, Z4c, Z4b, Z4d, Z4a, Z49, ex, Z43, Z42, ev_t, ev_c, Z27, Z26, Z4e, Z4f, Z2m, Z2l, Z2f, Z2j, Z2k, Z2g, Z2h, Z2i, putc, exBslice, lfill, exField, exIdxV, exIdxP, exBox, exAlloc, exLoad, exStore, exFieldA, exIdxA, exLen, exPick, exUn, exBeq, exMM, exSeq, seqGo, exExt, binV, intOp, subc, AV.solid, S0, encI, encB, e13, e12, e11, e5, e2, eg, encIs, encDet, encIss, encBs, hlt, hq, numO]
        exact FzK_I _ _
/-- det.Accepts has the same code. -/
theorem caesuraref15_Accepts_body {P : Program} {fr : FuncId} (d : Det) (l : List Int) (hr : PureC P fr [encDet d, encIs l] (encI (numO (runD d l)))) :
    AW P (c_caesuraref15_Accepts fr) (RetK [4] (FzK (encB (accD d l)))) (argF [encDet d, encIs l]) S0 := by
  simp [Z0h, Z0c, Z0d, Z09, Z0a, Z0i, Z0b, Z0f, Z0g, Z2z, Z2y, Z07, Z08, Z06, Z01, Z02, Z00, Z04, Z05, Z03, Z1z, Z1y, Z46, Z48, Z47, Z45, Z1n, Z1o, Z1m, Z3n, Z3k, Z3m, Z3l, Z3o, Z1l, Z29, Z32, Z3x, Z1i, Z1j, Z1k, Z3v, Z3w, Z1g, Z28, Z1h, Z3i, Z3f, Z3h, Z3g, Z3j, Z41, Z40, Z0t, Z0u, Z0v, Z0s, Z1f, Z4c, Z4b, Z4d, Z4a, Z49, ex, Z43, Z42, ev_t, ev_c, Z27, Z26, Z4e, Z4f, Z2m, Z2l, Z2f, Z2j, Z2k, Z2g, Z2h, Z2i, putc, exBslice, lfill, exField, exIdxV, exIdxP, exBox, exAlloc, exLoad, exStore, exFieldA, exIdxA, exLen, exPick, exUn, exBeq, exMM, exSeq, seqGo, exExt, binV, intOp, subc, AV.solid, S0, encI, encB, c_caesuraref15_Accepts, encDet, encIss, encBs]
  refine CallR.pure hr (cl_cons (closed_Det d) (cl_cons (Z2s l) cl_nil)) (Z2r _) ?_
  cases hrd : runD d l with
  | none =>
    simp [Z0h, Z0c, Z0d, Z09, Z0a, Z0i, Z0b, Z0f, Z0g, Z2z, Z2y, Z07, Z08, Z06, Z01, Z02, Z00, Z04, Z05, Z03, Z1z, Z1y, Z46, Z48, Z47, Z45, Z1n, Z1o, Z1m, Z3n, Z3k, Z3m, Z3l, Z3o, Z1l, Z29, Z32, Z3x, Z1i, Z1j, Z1k, Z3v, Z3w, Z1g, Z28, Z1h, Z3i, Z3f, Z3h, Z3g, Z3j, Z41, Z40, Z0t, Z0u, Z0v, Z0s, Z1f, Z4c, Z4b, Z4d, Z4a, Z49, ex, Z43, Z42, ev_t, ev_c, Z27, Z26, Z4e, Z4f, Z2m, Z2l, Z2f, Z2j, Z2k, Z2g, Z2h, Z2i, putc, exBslice, lfill, exField, exIdxV, exIdxP, exBox, exAlloc, exLoad, exStore, exFieldA, exIdxA, exLen, exPick, exUn, exBeq, exMM, exSeq, seqGo, exExt, binV, intOp, subc, AV.solid, S0, encI, encB, numO, accD, hrd]
    exact FzK_B _ _
  | some b =>
    have hb : b < d.fin.length := by
      unfold runD at hrd
      split at hrd
      · rename_i h
        have R := (right_iff d).mp h
        have := runFrom_lt R l 0 (by have := R.n1; omega) b hrd
        have := R.fin
        omega
      · cases hrd
    have hf : accD d l = d.fin[b] := by simp [accD, hrd, List.getD_eq_getElem?_getD, List.getElem?_eq_getElem hb]
    simp [Z0h, Z0c, Z0d, Z09, Z0a, Z0i, Z0b, Z0f, Z0g, Z2z, Z2y, Z07, Z08, Z06, Z01, Z02, Z00, Z04, Z05, Z03, Z1z, Z1y, Z46, Z48, Z47, Z45, Z1n, Z1o, Z1m, Z3n, Z3k, Z3m, Z3l, Z3o, Z1l, Z29, Z32, Z3x, Z1i, Z1j, Z1k, Z3v, Z3w, Z1g, Z28, Z1h, Z3i, Z3f, Z3h, Z3g, Z3j, Z41, Z40, Z0t, Z0u, Z0v, Z0s, Z1f, Z4c, Z4b, Z4d, Z4a, Z49, ex, Z43, Z42, ev_t, ev_c, Z27, Z26, Z4e, Z4f, Z2m, Z2l, Z2f, Z2j, Z2k, Z2g, Z2h, Z2i, putc, exBslice, lfill, exField, exIdxV, exIdxP, exBox, exAlloc, exLoad, exStore, exFieldA, exIdxA, exLen, exPick, exUn, exBeq, exMM, exSeq, seqGo, exExt, binV, intOp, subc, AV.solid, S0, encI, encB, numO, hrd, hb, hf]
    exact FzK_B _ _
end Go.Rf

