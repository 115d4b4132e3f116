import Derived.Test.YtidkjfaeolfcaaaGreatRfCell
set_option linter.unusedVariables false
set_option linter.unusedSimpArgs false
namespace Go.Rf
def c_cmp_isNaN_int_ : AC :=
  (.seq (.reg none [
   ⟨(some 2), .mv (.c (.v (.bool false))), none, none⟩])
  (.seq (.reg none [
   ⟨(some 3), .mv (.t 0), none, none⟩,
   ⟨(some 4), .mv (.t 0), none, none⟩,
   ⟨(some 5), .bin .neq (.t 3) (.t 4), none, none⟩,
   ⟨(some 2), .mv (.t 5), none, none⟩])
  .ret))
def c_cmp_Compare_int_ (f_cmp_isNaN_int_ : FuncId) : AC :=
  (.seq (.reg none [
   ⟨(some 4), .mv (.c (.v (.int .i64 0))), none, none⟩])
  (.seq (.reg none [
   ⟨(some 7), .mv (.t 0), none, none⟩,
   ⟨(some 8), .mv (.c .junk), none, (some ((.c (.clo f_cmp_isNaN_int_ [] [])), [(.t 7)]))⟩,
   ⟨(some 5), .mv (.t 8), none, none⟩])
  (.seq (.reg none [
   ⟨(some 9), .mv (.t 1), none, none⟩,
   ⟨(some 10), .mv (.c .junk), none, (some ((.c (.clo f_cmp_isNaN_int_ [] [])), [(.t 9)]))⟩,
   ⟨(some 6), .mv (.t 10), none, none⟩])
  (.seq (.seq (.reg none [
   ⟨(some 11), .mv (.t 5), none, none⟩])
  (.cond (.t 11) (.seq (.seq (.reg none [
    ⟨(some 12), .mv (.t 6), none, none⟩])
   (.cond (.t 12) (.seq (.reg none [
     ⟨(some 4), .mv (.c (.v (.int .i64 0))), none, none⟩])
    .ret) .skip))
   (.seq (.reg none [
    ⟨(some 4), .mv (.c (.v (.int .i64 (-1)))), none, none⟩])
   .ret)) .skip))
  (.seq (.seq (.reg none [
   ⟨(some 13), .mv (.t 6), none, none⟩])
  (.cond (.t 13) (.seq (.reg none [
    ⟨(some 4), .mv (.c (.v (.int .i64 1))), none, none⟩])
   .ret) .skip))
  (.seq (.seq (.reg none [
   ⟨(some 14), .mv (.t 0), none, none⟩,
   ⟨(some 15), .mv (.t 1), none, none⟩,
   ⟨(some 16), .bin .lss (.t 14) (.t 15), none, none⟩])
  (.cond (.t 16) (.seq (.reg none [
    ⟨(some 4), .mv (.c (.v (.int .i64 (-1)))), none, none⟩])
   .ret) .skip))
  (.seq (.seq (.reg none [
   ⟨(some 17), .mv (.t 0), none, none⟩,
   ⟨(some 18), .mv (.t 1), none, none⟩,
   ⟨(some 19), .bin .gtr (.t 17) (.t 18), none, none⟩])
  (.cond (.t 19) (.seq (.reg none [
    ⟨(some 4), .mv (.c (.v (.int .i64 1))), none, none⟩])
   .ret) .skip))
  (.seq (.reg none [
   ⟨(some 4), .mv (.c (.v (.int .i64 0))), none, none⟩])
  .ret))))))))
def c_cmp_Or_int_ : AC :=
  (.seq (.reg none [
   ⟨(some 2), .mv (.c (.v (.int .i64 0))), none, none⟩])
  (.seq (.reg none [
   ⟨(some 3), .mv (.c (.v (.int .i64 0))), none, none⟩])
  (.seq (.seq (.reg none [
   ⟨(some 6), .mv (.t 0), none, none⟩,
   ⟨(some 7), .len (.t 6), none, none⟩,
   ⟨(some 8), .mv (.c (.v (.int .i64 0))), none, none⟩])
  (.block 0 (.loop (.seq (.reg none [
     ⟨(some 9), .bin .lss (.t 8) (.t 7), none, none⟩])
    (.seq (.cond (.t 9) .skip (.exit 0))
    (.seq (.block 1 (.seq (.reg none [
      ⟨(some 10), .idxA 1 (.t 6) (.t 8), none, none⟩,
      ⟨(some 11), .load none (.t 10), none, none⟩,
      ⟨(some 5), .mv (.t 11), none, none⟩])
     (.seq (.reg none [
      ⟨(some 12), .mv (.t 5), none, none⟩,
      ⟨(some 13), .mv (.t 3), none, none⟩,
      ⟨(some 14), .bin .neq (.t 12) (.t 13), none, none⟩])
     (.cond (.t 14) (.seq (.reg none [
       ⟨(some 15), .mv (.t 5), none, none⟩,
       ⟨(some 2), .mv (.t 15), none, none⟩])
      .ret) .skip))))
    (.reg none [
     ⟨(some 16), .bin .add (.t 8) (.c (.v (.int .i64 1))), none, none⟩,
     ⟨(some 8), .mv (.t 16), none, none⟩])))))))
  (.seq (.reg none [
   ⟨(some 17), .mv (.t 3), none, none⟩,
   ⟨(some 2), .mv (.t 17), none, none⟩])
  .ret))))
def c_slices_Compare_Sint_int_ (f_cmp_Compare_int_ : FuncId) : AC :=
  (.seq (.reg none [
   ⟨(some 4), .mv (.c (.v (.int .i64 0))), none, none⟩])
  (.seq (.seq (.reg none [
   ⟨(some 9), .mv (.t 0), none, none⟩,
   ⟨(some 10), .len (.t 9), none, none⟩,
   ⟨(some 11), .mv (.c (.v (.int .i64 0))), none, none⟩])
  (.block 0 (.loop (.seq (.reg none [
     ⟨(some 12), .bin .lss (.t 11) (.t 10), none, none⟩])
    (.seq (.cond (.t 12) .skip (.exit 0))
    (.seq (.block 1 (.seq (.reg none [
      ⟨(some 13), .mv (.t 11), none, none⟩,
      ⟨(some 14), .idxA 1 (.t 9) (.t 11), none, none⟩,
      ⟨(some 15), .load none (.t 14), none, none⟩,
      ⟨(some 5), .mv (.t 13), none, none⟩,
      ⟨(some 6), .mv (.t 15), none, none⟩])
     (.seq (.seq (.reg none [
      ⟨(some 16), .mv (.t 5), none, none⟩,
      ⟨(some 17), .mv (.t 1), none, none⟩,
      ⟨(some 18), .len (.t 17), none, none⟩,
      ⟨(some 19), .bin .geq (.t 16) (.t 18), none, none⟩])
     (.cond (.t 19) (.seq (.reg none [
       ⟨(some 4), .mv (.c (.v (.int .i64 1))), none, none⟩])
      .ret) .skip))
     (.seq (.reg none [
      ⟨(some 20), .mv (.t 1), none, none⟩,
      ⟨(some 21), .mv (.t 5), none, none⟩,
      ⟨(some 22), .idxA 1 (.t 20) (.t 21), none, none⟩,
      ⟨(some 23), .load none (.t 22), none, none⟩,
      ⟨(some 7), .mv (.t 23), none, none⟩])
     (.seq (.reg none [
      ⟨(some 24), .mv (.t 6), none, none⟩,
      ⟨(some 25), .mv (.t 7), none, none⟩,
      ⟨(some 26), .mv (.c .junk), none, (some ((.c (.clo f_cmp_Compare_int_ [] [])), [(.t 24), (.t 25)]))⟩,
      ⟨(some 8), .mv (.t 26), none, none⟩])
     (.seq (.reg none [
      ⟨(some 27), .mv (.t 8), none, none⟩,
      ⟨(some 28), .bin .neq (.t 27) (.c (.v (.int .i64 0))), none, none⟩])
     (.cond (.t 28) (.seq (.reg none [
       ⟨(some 29), .mv (.t 8), none, none⟩,
       ⟨(some 4), .mv (.t 29), none, none⟩])
      .ret) .skip)))))))
    (.reg none [
     ⟨(some 30), .bin .add (.t 11) (.c (.v (.int .i64 1))), none, none⟩,
     ⟨(some 11), .mv (.t 30), none, none⟩])))))))
  (.seq (.seq (.reg none [
   ⟨(some 31), .mv (.t 0), none, none⟩,
   ⟨(some 32), .len (.t 31), none, none⟩,
   ⟨(some 33), .mv (.t 1), none, none⟩,
   ⟨(some 34), .len (.t 33), none, none⟩,
   ⟨(some 35), .bin .lss (.t 32) (.t 34), none, none⟩])
  (.cond (.t 35) (.seq (.reg none [
    ⟨(some 4), .mv (.c (.v (.int .i64 (-1)))), none, none⟩])
   .ret) .skip))
  (.seq (.reg none [
   ⟨(some 4), .mv (.c (.v (.int .i64 0))), none, none⟩])
  .ret))))
theorem cmp_isNaN_body (P : Program) (n : Int) : AW P c_cmp_isNaN_int_ (RetK [2] (FzK (encB false))) (argF [encI n]) S0 := by
  simp [Z0h, Z0c, Z0d, Z09, Z0a, Z0i, Z0b, Z0f, Z0g, Z2z, Z2y, Z07, Z08, Z06, Z01, Z02, Z00, Z04, Z05, Z03, Z1z, Z1y, Z46, Z48, Z47, Z45, Z1n, Z1o, Z1m, Z3n, Z3k, Z3m, Z3l, Z3o, Z1l, Z29, Z32, Z3x, Z1i, Z1j, Z1k, Z3v, Z3w, Z1g, Z28, Z1h, Z3i, Z3f, Z3h, Z3g, Z3j, Z41, Z40, Z0t, Z0u, Z0v, Z0s, Z1f, Z4c, Z4b, Z4d, Z4a, Z49, ex, Z43, Z42, ev_t, ev_c, Z27, Z26, Z4e, Z4f, Z2m, Z2l, Z2f, Z2j, Z2k, Z2g, Z2h, Z2i, putc, exBslice, lfill, exField, exIdxV, exIdxP, exBox, exAlloc, exLoad, exStore, exFieldA, exIdxA, exLen, exPick, exUn, exBeq, exMM, exSeq, seqGo, exExt, binV, intOp, subc, AV.solid, S0, encI, encB, c_cmp_isNaN_int_]
  exact FzK_B false _
def cmpI (a b : Int) : Int := if a < b then -1 else if b < a then 1 else 0
theorem cmp_Compare_body {P : Program} {f : FuncId} (a b : Int) (h : ∀ n, PureC P f [encI n] (encB false)) : AW P (c_cmp_Compare_int_ f) (RetK [4] (FzK (encI (cmpI a b)))) (argF [encI a, encI b]) S0 := by
  simp [Z0h, Z0c, Z0d, Z09, Z0a, Z0i, Z0b, Z0f, Z0g, Z2z, Z2y, Z07, Z08, Z06, Z01, Z02, Z00, Z04, Z05, Z03, Z1z, Z1y, Z46, Z48, Z47, Z45, Z1n, Z1o, Z1m, Z3n, Z3k, Z3m, Z3l, Z3o, Z1l, Z29, Z32, Z3x, Z1i, Z1j, Z1k, Z3v, Z3w, Z1g, Z28, Z1h, Z3i, Z3f, Z3h, Z3g, Z3j, Z41, Z40, Z0t, Z0u, Z0v, Z0s, Z1f, Z4c, Z4b, Z4d, Z4a, Z49, ex, Z43, Z42, ev_t, ev_c, Z27, Z26, Z4e, Z4f, Z2m, Z2l, Z2f, Z2j, Z2k, Z2g, Z2h, Z2i, putc, exBslice, lfill, exField, exIdxV, exIdxP, exBox, exAlloc, exLoad, exStore, exFieldA, exIdxA, exLen, exPick, exUn, exBeq, exMM, exSeq, seqGo, exExt, binV, intOp, subc, AV.solid, S0, encI, encB, c_cmp_Compare_int_]
  refine CallR.pure (h a) (cl_cons (Z2r _) cl_nil) (Z2o _) ?_
  simp [Z0h, Z0c, Z0d, Z09, Z0a, Z0i, Z0b, Z0f, Z0g, Z2z, Z2y, Z07, Z08, Z06, Z01, Z02, Z00, Z04, Z05, Z03, Z1z, Z1y, Z46, Z48, Z47, Z45, Z1n, Z1o, Z1m, Z3n, Z3k, Z3m, Z3l, Z3o, Z1l, Z29, Z32, Z3x, Z1i, Z1j, Z1k, Z3v, Z3w, Z1g, Z28, Z1h, Z3i, Z3f, Z3h, Z3g, Z3j, Z41, Z40, Z0t, Z0u, Z0v, Z0s, Z1f, Z4c, Z4b, Z4d, Z4a, Z49, ex, Z43, Z42, ev_t, ev_c, Z27, Z26, Z4e, Z4f, Z2m, Z2l, Z2f, Z2j, Z2k, Z2g, Z2h, Z2i, putc, exBslice, lfill, exField, exIdxV, exIdxP, exBox, exAlloc, exLoad, exStore, exFieldA, exIdxA, exLen, exPick, exUn, exBeq, exMM, exSeq, seqGo, exExt, binV, intOp, subc, AV.solid, S0, encI, encB]
  refine CallR.pure (h b) (cl_cons (Z2r _) cl_nil) (Z2o _) ?_
  by_cases h1 : a < b
  · simp [Z0h, Z0c, Z0d, Z09, Z0a, Z0i, Z0b, Z0f, Z0g, Z2z, Z2y, Z07, Z08, Z06, Z01, Z02, Z00, Z04, Z05, Z03, Z1z, Z1y, Z46, Z48, Z47, Z45, Z1n, Z1o, Z1m, Z3n, Z3k, Z3m, Z3l, Z3o, Z1l, Z29, Z32, Z3x, Z1i, Z1j, Z1k, Z3v, Z3w, Z1g, Z28, Z1h, Z3i, Z3f, Z3h, Z3g, Z3j, Z41, Z40, Z0t, Z0u, Z0v, Z0s, Z1f, Z4c, Z4b, Z4d, Z4a, Z49, ex, Z43, Z42, ev_t, ev_c, Z27, Z26, Z4e, Z4f, Z2m, Z2l, Z2f, Z2j, Z2k, Z2g, Z2h, Z2i, putc, exBslice, lfill, exField, exIdxV, exIdxP, exBox, exAlloc, exLoad, exStore, exFieldA, exIdxA, exLen, exPick, exUn, exBeq, exMM, exSeq, seqGo, exExt, binV, intOp, subc, AV.solid, S0, encI, encB, h1, cmpI]
    exact FzK_I _ _
  by_cases h2 : b < a
  · simp [Z0h, Z0c, Z0d, Z09, Z0a, Z0i, Z0b, Z0f, Z0g, Z2z, Z2y, Z07, Z08, Z06, Z01, Z02, Z00, Z04, Z05, Z03, Z1z, Z1y, Z46, Z48, Z47, Z45, Z1n, Z1o, Z1m, Z3n, Z3k, Z3m, Z3l, Z3o, Z1l, Z29, Z32, Z3x, Z1i, Z1j, Z1k, Z3v, Z3w, Z1g, Z28, Z1h, Z3i, Z3f, Z3h, Z3g, Z3j, Z41, Z40, Z0t, Z0u, Z0v, Z0s, Z1f, Z4c, Z4b, Z4d, Z4a, Z49, ex, Z43, Z42, ev_t, ev_c, Z27, Z26, Z4e, Z4f, Z2m, Z2l, Z2f, Z2j, Z2k, Z2g, Z2h, Z2i, putc, exBslice, lfill, exField, exIdxV, exIdxP, exBox, exAlloc, exLoad, exStore, exFieldA, exIdxA, exLen, exPick, exUn, exBeq, exMM, exSeq, seqGo, exExt, binV, intOp, subc, AV.solid, S0, encI, encB, h1, h2, cmpI]
    exact FzK_I _ _
  simp [Z0h, Z0c, Z0d, Z09, Z0a, Z0i, Z0b, Z0f, Z0g, Z2z, Z2y, Z07, Z08, Z06, Z01, Z02, Z00, Z04, Z05, Z03, Z1z, Z1y, Z46, Z48, Z47, Z45, Z1n, Z1o, Z1m, Z3n, Z3k, Z3m, Z3l, Z3o, Z1l, Z29, Z32, Z3x, Z1i, Z1j, Z1k, Z3v, Z3w, Z1g, Z28, Z1h, Z3i, Z3f, Z3h, Z3g, Z3j, Z41, Z40, Z0t, Z0u, Z0v, Z0s, Z1f, Z4c, Z4b, Z4d, Z4a, Z49, ex, Z43, Z42, ev_t, ev_c, Z27, Z26, Z4e, Z4f, Z2m, Z2l, Z2f, Z2j, Z2k, Z2g, Z2h, Z2i, putc, exBslice, lfill, exField, exIdxV, exIdxP, exBox, exAlloc, exLoad, exStore, exFieldA, exIdxA, exLen, exPick, exUn, exBeq, exMM, exSeq, seqGo, exExt, binV, intOp, subc, AV.solid, S0, encI, encB, h1, h2, cmpI]
  exact FzK_I _ _
def orL : List Int → Int
  | [] => 0
  | x :: l => if x ≠ 0 then x else orL l
def orI (l : List Int) (m : Nat) (f : AF) (S : St) : Prop :=
  ∃ i : Nat, i ≤ l.length ∧ m = l.length - i ∧ f 8 = encI i ∧ f 7 = encI l.length ∧ f 6 = encIs l ∧ f 3 = encI 0 ∧ orL l = orL (l.drop i)
theorem cmp_Or_body (P : Program) (l : List Int) (hl : Len l) : AW P c_cmp_Or_int_ (RetK [2] (FzK (encI (orL l)))) (argF [encIs l]) S0 := by
  unfold Len at hl
  simp [Z0h, Z0c, Z0d, Z09, Z0a, Z0i, Z0b, Z0f, Z0g, Z2z, Z2y, Z07, Z08, Z06, Z01, Z02, Z00, Z04, Z05, Z03, Z1z, Z1y, Z46, Z48, Z47, Z45, Z1n, Z1o, Z1m, Z3n, Z3k, Z3m, Z3l, Z3o, Z1l, Z29, Z32, Z3x, Z1i, Z1j, Z1k, Z3v, Z3w, Z1g, Z28, Z1h, Z3i, Z3f, Z3h, Z3g, Z3j, Z41, Z40, Z0t, Z0u, Z0v, Z0s, Z1f, Z4c, Z4b, Z4d, Z4a, Z49, ex, Z43, Z42, ev_t, ev_c, Z27, Z26, Z4e, Z4f, Z2m, Z2l, Z2f, Z2j, Z2k, Z2g, Z2h, Z2i, putc, exBslice, lfill, exField, exIdxV, exIdxP, exBox, exAlloc, exLoad, exStore, exFieldA, exIdxA, exLen, exPick, exUn, exBeq, exMM, exSeq, seqGo, exExt, binV, intOp, subc, AV.solid, S0, encI, encB, c_cmp_Or_int_, encIs]
  refine AW_loop (orI l) l.length ?_ ?_
  · refine ⟨0, by omega, by omega, ?_, ?_, ?_, ?_, by simp⟩ <;> simp [Z43, Z27, Z26, encI, encIs]
  · rintro m f S ⟨i, hi, rfl, e8, e7, e6, e3, hq⟩
    by_cases hlt : i < l.length
    · rw [List.drop_eq_getElem_cons hlt, orL] at hq
      by_cases hz : l[i] = 0
      · rw [if_neg (by simp [hz])] at hq
        have hc : (l[i] != 0) = false := by simp [hz]
        simp [Z0h, Z0c, Z0d, Z09, Z0a, Z0i, Z0b, Z0f, Z0g, Z2z, Z2y, Z07, Z08, Z06, Z01, Z02, Z00, Z04, Z05, Z03, Z1z, Z1y, Z46, Z48, Z47, Z45, Z1n, Z1o, Z1m, Z3n, Z3k, Z3m, Z3l, Z3o, Z1l, Z29, Z32, Z3x, Z1i, Z1j, Z1k, Z3v, Z3w, Z1g, Z28, Z1h, Z3i, Z3f, Z3h, Z3g, Z3j, Z41, Z40, Z0t, Z0u, Z0v, Z0s, Z1f, Z4c, Z4b, Z4d, Z4a, Z49, ex, Z43, Z42, ev_t, ev_c, Z27, Z26, Z4e, Z4f, Z2m, Z2l, Z2f, Z2j, Z2k, Z2g, Z2h, Z2i, putc, exBslice, lfill, exField, exIdxV, exIdxP, exBox, exAlloc, exLoad, exStore, exFieldA, exIdxA, exLen, exPick, exUn, exBeq, exMM, exSeq, seqGo, exExt, binV, intOp, subc, AV.solid, S0, encI, encB, e8, e7, e6, e3, encIs, hlt, hc]
        rw [wrap_in _ (by omega)]
        refine ⟨l.length - (i + 1), by omega, i + 1, by omega, rfl, ?_, ?_, ?_, ?_, hq⟩ <;> simp [Z43, e8, e7, e6, e3, encI, encIs]
      · rw [if_pos hz] at hq
        have hc : (l[i] != 0) = true := by simp [hz]
        simp [Z0h, Z0c, Z0d, Z09, Z0a, Z0i, Z0b, Z0f, Z0g, Z2z, Z2y, Z07, Z08, Z06, Z01, Z02, Z00, Z04, Z05, Z03, Z1z, Z1y, Z46, Z48, Z47, Z45, Z1n, Z1o, Z1m, Z3n, Z3k, Z3m, Z3l, Z3o, Z1l, Z29, Z32, Z3x, Z1i, Z1j, Z1k, Z3v, Z3w, Z1g, Z28, Z1h, Z3i, Z3f, Z3h, Z3g, Z3j, Z41, Z40, Z0t, Z0u, Z0v, Z0s, Z1f, Z4c, Z4b, Z4d, Z4a, Z49, ex, Z43, Z42, ev_t, ev_c, Z27, Z26, Z4e, Z4f, Z2m, Z2l, Z2f, Z2j, Z2k, Z2g, Z2h, Z2i, putc, exBslice, lfill, exField, exIdxV, exIdxP, exBox, exAlloc, exLoad, exStore, exFieldA, exIdxA, exLen, exPick, exUn, exBeq, exMM, exSeq, seqGo, exExt, binV, intOp, subc, AV.solid, S0, encI, encB, e8, e7, e6, e3, encIs, hlt, hc, hq]
        exact FzK_I _ _
    · rw [List.drop_of_length_le (by omega), orL] at hq
      simp [Z0h, Z0c, Z0d, Z09, Z0a, Z0i, Z0b, Z0f, Z0g, Z2z, Z2y, Z07, Z08, Z06, Z01, Z02, Z00, Z04, Z05, Z03, Z1z, Z1y, Z46, Z48, Z47, Z45, Z1n, Z1o, Z1m, Z3n, Z3k, Z3m, Z3l, Z3o, Z1l, Z29, Z32, Z3x, Z1i, Z1j, Z1k, Z3v, Z3w, Z1g, Z28, Z1h, Z3i, Z3f, Z3h, Z3g, Z3j, Z41, Z40, Z0t, Z0u, Z0v, Z0s, Z1f, Z4c, Z4b, Z4d, Z4a, Z49, ex, Z43, Z42, ev_t, ev_c, Z27, Z26, Z4e, Z4f, Z2m, Z2l, Z2f, Z2j, Z2k, Z2g, Z2h, Z2i, putc, exBslice, lfill, exField, exIdxV, exIdxP, exBox, exAlloc, exLoad, exStore, exFieldA, exIdxA, exLen, exPick, exUn, exBeq, exMM, exSeq, seqGo, exExt, binV, intOp, subc, AV.solid, S0, encI, encB, e8, e7, e6, e3, encIs, hlt, hq]
      exact FzK_I _ _
def cmpL : List Int → List Int → Int
  | [], [] => 0
  | [], _ :: _ => -1
  | _ :: _, [] => 1
  | x :: a, y :: b => if cmpI x y ≠ 0 then cmpI x y else cmpL a b
theorem cmpL_nil_left (b : List Int) : cmpL [] b = if b.length = 0 then 0 else -1 := by cases b <;> simp [cmpL]
def cmpJ (a b : List Int) (m : Nat) (f : AF) (S : St) : Prop :=
  ∃ i : Nat, i ≤ a.length ∧ i ≤ b.length ∧ m = a.length - i ∧ f 11 = encI i ∧ f 10 = encI a.length ∧ f 9 = encIs a ∧ f 1 = encIs b ∧ f 0 = encIs a ∧ cmpL a b = cmpL (a.drop i) (b.drop i)
theorem slices_Compare_body {P : Program} {f : FuncId} (a b : List Int) (ha : Len a) (hb : Len b) (h : ∀ x y, PureC P f [encI x, encI y] (encI (cmpI x y))) :
    AW P (c_slices_Compare_Sint_int_ f) (RetK [4] (FzK (encI (cmpL a b)))) (argF [encIs a, encIs b]) S0 := by
  unfold Len at ha hb
  simp [Z0h, Z0c, Z0d, Z09, Z0a, Z0i, Z0b, Z0f, Z0g, Z2z, Z2y, Z07, Z08, Z06, Z01, Z02, Z00, Z04, Z05, Z03, Z1z, Z1y, Z46, Z48, Z47, Z45, Z1n, Z1o, Z1m, Z3n, Z3k, Z3m, Z3l, Z3o, Z1l, Z29, Z32, Z3x, Z1i, Z1j, Z1k, Z3v, Z3w, Z1g, Z28, Z1h, Z3i, Z3f, Z3h, Z3g, Z3j, Z41, Z40, Z0t, Z0u, Z0v, Z0s, Z1f, Z4c, Z4b, Z4d, Z4a, Z49, ex, Z43, Z42, ev_t, ev_c, Z27, Z26, Z4e, Z4f, Z2m, Z2l, Z2f, Z2j, Z2k, Z2g, Z2h, Z2i, putc, exBslice, lfill, exField, exIdxV, exIdxP, exBox, exAlloc, exLoad, exStore, exFieldA, exIdxA, exLen, exPick, exUn, exBeq, exMM, exSeq, seqGo, exExt, binV, intOp, subc, AV.solid, S0, encI, encB, c_slices_Compare_Sint_int_, encIs]
  refine AW_loop (cmpJ a b) a.length ?_ ?_
  · refine ⟨0, by omega, by omega, by omega, ?_, ?_, ?_, ?_, ?_, by simp⟩ <;> simp [Z43, Z27, Z26, encI, encIs]
  · rintro m g S ⟨i, hi, hib, rfl, e11, e10, e9, e1, e0, hq⟩
    by_cases hlt : i < a.length
    · by_cases hlb : i < b.length
      · have hnb : ¬ (b.length : Int) ≤ i := by omega
        rw [List.drop_eq_getElem_cons hlt, List.drop_eq_getElem_cons hlb, cmpL] at hq
        simp [Z0h, Z0c, Z0d, Z09, Z0a, Z0i, Z0b, Z0f, Z0g, Z2z, Z2y, Z07, Z08, Z06, Z01, Z02, Z00, Z04, Z05, Z03, Z1z, Z1y, Z46, Z48, Z47, Z45, Z1n, Z1o, Z1m, Z3n, Z3k, Z3m, Z3l, Z3o, Z1l, Z29, Z32, Z3x, Z1i, Z1j, Z1k, Z3v, Z3w, Z1g, Z28, Z1h, Z3i, Z3f, Z3h, Z3g, Z3j, Z41, Z40, Z0t, Z0u, Z0v, Z0s, Z1f, Z4c, Z4b, Z4d, Z4a, Z49, ex, Z43, Z42, ev_t, ev_c, Z27, Z26, Z4e, Z4f, Z2m, Z2l, Z2f, Z2j, Z2k, Z2g, Z2h, Z2i, putc, exBslice, lfill, exField, exIdxV, exIdxP, exBox, exAlloc, exLoad, exStore, exFieldA, exIdxA, exLen, exPick, exUn, exBeq, exMM, exSeq, seqGo, exExt, binV, intOp, subc, AV.solid, S0, encI, encB, e11, e10, e9, e1, e0, encIs, hlt, hlb, hnb]
        refine CallR.pure (h a[i] b[i]) (cl_cons (Z2r _) (cl_cons (Z2r _) cl_nil)) (Z2r _) ?_
        by_cases hz : cmpI a[i] b[i] = 0
        · rw [if_neg (by simp [hz])] at hq
          have hc : (cmpI a[i] b[i] != 0) = false := by simp [hz]
          simp [Z0h, Z0c, Z0d, Z09, Z0a, Z0i, Z0b, Z0f, Z0g, Z2z, Z2y, Z07, Z08, Z06, Z01, Z02, Z00, Z04, Z05, Z03, Z1z, Z1y, Z46, Z48, Z47, Z45, Z1n, Z1o, Z1m, Z3n, Z3k, Z3m, Z3l, Z3o, Z1l, Z29, Z32, Z3x, Z1i, Z1j, Z1k, Z3v, Z3w, Z1g, Z28, Z1h, Z3i, Z3f, Z3h, Z3g, Z3j, Z41, Z40, Z0t, Z0u, Z0v, Z0s, Z1f, Z4c, Z4b, Z4d, Z4a, Z49, ex, Z43, Z42, ev_t, ev_c, Z27, Z26, Z4e, Z4f, Z2m, Z2l, Z2f, Z2j, Z2k, Z2g, Z2h, Z2i, putc, exBslice, lfill, exField, exIdxV, exIdxP, exBox, exAlloc, exLoad, exStore, exFieldA, exIdxA, exLen, exPick, exUn, exBeq, exMM, exSeq, seqGo, exExt, binV, intOp, subc, AV.solid, S0, encI, encB, e11, e10, e9, e1, e0, encIs, hc]
          rw [wrap_in _ (by omega)]
          refine ⟨a.length - (i + 1), by omega, i + 1, by omega, by omega, rfl, ?_, ?_, ?_, ?_, ?_, hq⟩ <;> simp [Z43, e11, e10, e9, e1, e0, encI, encIs]
        · rw [if_pos hz] at hq
          have hc : (cmpI a[i] b[i] != 0) = true := by simp [hz]
          simp [Z0h, Z0c, Z0d, Z09, Z0a, Z0i, Z0b, Z0f, Z0g, Z2z, Z2y, Z07, Z08, Z06, Z01, Z02, Z00, Z04, Z05, Z03, Z1z, Z1y, Z46, Z48, Z47, Z45, Z1n, Z1o, Z1m, Z3n, Z3k, Z3m, Z3l, Z3o, Z1l, Z29, Z32, Z3x, Z1i, Z1j, Z1k, Z3v, Z3w, Z1g, Z28, Z1h, Z3i, Z3f, Z3h, Z3g, Z3j, Z41, Z40, Z0t, Z0u, Z0v, Z0s, Z1f, Z4c, Z4b, Z4d, Z4a, Z49, ex, Z43, Z42, ev_t, ev_c, Z27, Z26, Z4e, Z4f, Z2m, Z2l, Z2f, Z2j, Z2k, Z2g, Z2h, Z2i, putc, exBslice, lfill, exField, exIdxV, exIdxP, exBox, exAlloc, exLoad, exStore, exFieldA, exIdxA, exLen, exPick, exUn, exBeq, exMM, exSeq, seqGo, exExt, binV, intOp, subc, AV.solid, S0, encI, encB, e11, e10, e9, e1, e0, encIs, hc, hq]
          exact FzK_I _ _
      · have hnb : (b.length : Int) ≤ i := by omega
        rw [List.drop_eq_getElem_cons hlt, List.drop_of_length_le (l := b) (by omega), cmpL] at hq
        simp [Z0h, Z0c, Z0d, Z09, Z0a, Z0i, Z0b, Z0f, Z0g, Z2z, Z2y, Z07, Z08, Z06, Z01, Z02, Z00, Z04, Z05, Z03, Z1z, Z1y, Z46, Z48, Z47, Z45, Z1n, Z1o, Z1m, Z3n, Z3k, Z3m, Z3l, Z3o, Z1l, Z29, Z32, Z3x, Z1i, Z1j, Z1k, Z3v, Z3w, Z1g, Z28, Z1h, Z3i, Z3f, Z3h, Z3g, Z3j, Z41, Z40, Z0t, Z0u, Z0v, Z0s, Z1f, Z4c, Z4b, Z4d, Z4a, Z49, ex, Z43, Z42, ev_t, ev_c, Z27, Z26, Z4e, Z4f, Z2m, Z2l, Z2f, Z2j, Z2k, Z2g, Z2h, Z2i, putc, exBslice, lfill, exField, exIdxV, exIdxP, exBox, exAlloc, exLoad, exStore, exFieldA, exIdxA, exLen, exPick, exUn, exBeq, exMM, exSeq, seqGo, exExt, binV, intOp, subc, AV.solid, S0, encI, encB, e11, e10, e9, e1, e0, encIs, hlt, hnb, hq]
        exact FzK_I _ _
    · have hia : i = a.length := by omega
      rw [List.drop_of_length_le (l := a) (by omega), cmpL_nil_left] at hq
      by_cases hlb : a.length < b.length
      · rw [if_neg (by simp; omega)] at hq
        simp [Z0h, Z0c, Z0d, Z09, Z0a, Z0i, Z0b, Z0f, Z0g, Z2z, Z2y, Z07, Z08, Z06, Z01, Z02, Z00, Z04, Z05, Z03, Z1z, Z1y, Z46, Z48, Z47, Z45, Z1n, Z1o, Z1m, Z3n, Z3k, Z3m, Z3l, Z3o, Z1l, Z29, Z32, Z3x, Z1i, Z1j, Z1k, Z3v, Z3w, Z1g, Z28, Z1h, Z3i, Z3f, Z3h, Z3g, Z3j, Z41, Z40, Z0t, Z0u, Z0v, Z0s, Z1f, Z4c, Z4b, Z4d, Z4a, Z49, ex, Z43, Z42, ev_t, ev_c, Z27, Z26, Z4e, Z4f, Z2m, Z2l, Z2f, Z2j, Z2k, Z2g, Z2h, Z2i, putc, exBslice, lfill, exField, exIdxV, exIdxP, exBox, exAlloc, exLoad, exStore, exFieldA, exIdxA, exLen, exPick, exUn, exBeq, exMM, exSeq, seqGo, exExt, binV, intOp, subc, AV.solid, S0, encI, encB, e11, e10, e9, e1, e0, encIs, hlt, hlb, hq]
        exact FzK_I _ _
      · rw [if_pos (by simp; omega)] at hq
        simp [Z0h, Z0c, Z0d, Z09, Z0a, Z0i, Z0b, Z0f, Z0g, Z2z, Z2y, Z07, Z08, Z06, Z01, Z02, Z00, Z04, Z05, Z03, Z1z, Z1y, Z46, Z48, Z47, Z45, Z1n, Z1o, Z1m, Z3n, Z3k, Z3m, Z3l, Z3o, Z1l, Z29, Z32, Z3x, Z1i, Z1j, Z1k, Z3v, Z3w, Z1g, Z28, Z1h, Z3i, Z3f, Z3h, Z3g, Z3j, Z41, Z40, Z0t, Z0u, Z0v, Z0s, Z1f, Z4c, Z4b, Z4d, Z4a, Z49, ex, Z43, Z42, ev_t, ev_c, Z27, Z26, Z4e, Z4f, Z2m, Z2l, Z2f, Z2j, Z2k, Z2g, Z2h, Z2i, putc, exBslice, lfill, exField, exIdxV, exIdxP, exBox, exAlloc, exLoad, exStore, exFieldA, exIdxA, exLen, exPick, exUn, exBeq, exMM, exSeq, seqGo, exExt, binV, intOp, subc, AV.solid, S0, encI, encB, e11, e10, e9, e1, e0, encIs, hlt, hlb, hq]
        exact FzK_I _ _
end Go.Rf

