import Derived.Test.YtajombmjidnbcaaDoorRfCell
import Derived.Test.YtajombmjidnbcaaDoorRfB3
import Derived.Test.YtajombmjidnbcaaDoorRfN1
import Derived.Test.YtajombmjidnbcaaDoorRfPan
set_option linter.unusedVariables false
set_option linter.unusedSimpArgs false
namespace Go.Rf
/-- caesura/caesuraref15.Right -/
def c_caesuraref15_Right : AC :=
  (.seq (.reg none [
   ⟨(some 1), .box 3 (.t 0), none, none⟩,
   ⟨(some 2), .mv (.c (.v (.bool false))), none, none⟩])
  (.seq (.reg none [
   ⟨(some 6), .fieldA 1 (.t 1), none, none⟩,
   ⟨(some 7), .load none (.t 6), none, none⟩,
   ⟨(some 8), .len (.t 7), none, none⟩,
   ⟨(some 3), .mv (.t 8), none, none⟩])
  (.seq (.seq (.reg none [
   ⟨(some 9), .fieldA 0 (.t 1), none, none⟩,
   ⟨(some 10), .load none (.t 9), none, none⟩,
   ⟨(some 11), .bin .lss (.t 10) (.c (.v (.int .i64 1))), none, none⟩,
   ⟨(some 12), .mv (.t 11), none, none⟩,
   ⟨(some 13), .fieldA 0 (.t 1), (some (12, false)), none⟩,
   ⟨(some 14), .load none (.t 13), (some (12, false)), none⟩,
   ⟨(some 15), .bin .gtr (.t 14) (.c (.v (.int .i64 400))), (some (12, false)), none⟩,
   ⟨(some 16), .pick (.t 12) (.c (.v (.bool true))) (.t 15), none, none⟩,
   ⟨(some 17), .mv (.t 16), none, none⟩,
   ⟨(some 18), .mv (.t 3), (some (17, false)), none⟩,
   ⟨(some 19), .bin .lss (.t 18) (.c (.v (.int .i64 1))), (some (17, false)), none⟩,
   ⟨(some 20), .pick (.t 17) (.c (.v (.bool true))) (.t 19), none, none⟩,
   ⟨(some 21), .mv (.t 20), none, none⟩,
   ⟨(some 22), .mv (.t 3), (some (21, false)), none⟩,
   ⟨(some 23), .bin .gtr (.t 22) (.c (.v (.int .i64 3000))), (some (21, false)), none⟩,
   ⟨(some 24), .pick (.t 21) (.c (.v (.bool true))) (.t 23), none, none⟩,
   ⟨(some 25), .mv (.t 24), none, none⟩,
   ⟨(some 26), .fieldA 2 (.t 1), (some (25, false)), none⟩,
   ⟨(some 27), .load none (.t 26), (some (25, false)), none⟩,
   ⟨(some 28), .len (.t 27), (some (25, false)), none⟩,
   ⟨(some 29), .mv (.t 3), (some (25, false)), none⟩,
   ⟨(some 30), .bin .neq (.t 28) (.t 29), (some (25, false)), none⟩,
   ⟨(some 31), .pick (.t 25) (.c (.v (.bool true))) (.t 30), none, none⟩])
  (.cond (.t 31) (.seq (.reg none [
    ⟨(some 2), .mv (.c (.v (.bool false))), none, none⟩])
   .ret) .skip))
  (.seq (.seq (.reg none [
   ⟨(some 4), .mv (.c (.v (.int .i64 0))), none, none⟩])
  (.block 0 (.loop (.seq (.seq (.reg none [
     ⟨(some 32), .mv (.t 4), none, none⟩,
     ⟨(some 33), .mv (.t 3), none, none⟩,
     ⟨(some 34), .bin .lss (.t 32) (.t 33), none, none⟩])
    (.cond (.t 34) .skip (.exit 0)))
    (.seq (.block 1 (.seq (.seq (.reg (some []) [
      ⟨(some 37), .fieldA 1 (.t 1), none, none⟩,
      ⟨(some 38), .load none (.t 37), none, none⟩,
      ⟨(some 39), .mv (.t 4), none, none⟩,
      ⟨(some 40), .idxA 1 (.t 38) (.t 39), none, none⟩,
      ⟨(some 41), .load none (.t 40), none, none⟩,
      ⟨(some 42), .len (.t 41), none, none⟩,
      ⟨(some 43), .fieldA 0 (.t 1), none, none⟩,
      ⟨(some 44), .load none (.t 43), none, none⟩,
      ⟨(some 45), .bin .neq (.t 42) (.t 44), none, none⟩])
     (.cond (.t 45) (.seq (.reg none [
       ⟨(some 2), .mv (.c (.v (.bool false))), none, none⟩])
      .ret) .skip))
     (.seq (.reg none [
      ⟨(some 5), .mv (.c (.v (.int .i64 0))), none, none⟩])
     (.block 2 (.loop (.seq (.seq (.reg none [
        ⟨(some 46), .mv (.t 5), none, none⟩,
        ⟨(some 47), .fieldA 0 (.t 1), none, none⟩,
        ⟨(some 48), .load none (.t 47), none, none⟩,
        ⟨(some 49), .bin .lss (.t 46) (.t 48), none, none⟩])
       (.cond (.t 49) .skip (.exit 2)))
       (.seq (.block 3 (.seq (.reg none [
         ⟨(some 52), .fieldA 1 (.t 1), none, none⟩,
         ⟨(some 53), .load none (.t 52), none, none⟩,
         ⟨(some 54), .mv (.t 4), none, none⟩,
         ⟨(some 55), .idxA 1 (.t 53) (.t 54), none, none⟩,
         ⟨(some 56), .load none (.t 55), none, none⟩,
         ⟨(some 57), .mv (.t 5), none, none⟩,
         ⟨(some 58), .idxA 1 (.t 56) (.t 57), none, none⟩,
         ⟨(some 59), .load none (.t 58), none, none⟩,
         ⟨(some 60), .bin .lss (.t 59) (.c (.v (.int .i64 0))), none, none⟩,
         ⟨(some 61), .mv (.t 60), none, none⟩,
         ⟨(some 62), .fieldA 1 (.t 1), (some (61, false)), none⟩,
         ⟨(some 63), .load none (.t 62), (some (61, false)), none⟩,
         ⟨(some 64), .mv (.t 4), (some (61, false)), none⟩,
         ⟨(some 65), .idxA 1 (.t 63) (.t 64), (some (61, false)), none⟩,
         ⟨(some 66), .load none (.t 65), (some (61, false)), none⟩,
         ⟨(some 67), .mv (.t 5), (some (61, false)), none⟩,
         ⟨(some 68), .idxA 1 (.t 66) (.t 67), (some (61, false)), none⟩,
         ⟨(some 69), .load none (.t 68), (some (61, false)), none⟩,
         ⟨(some 70), .mv (.t 3), (some (61, false)), none⟩,
         ⟨(some 71), .bin .geq (.t 69) (.t 70), (some (61, false)), none⟩,
         ⟨(some 72), .pick (.t 61) (.c (.v (.bool true))) (.t 71), none, none⟩])
        (.cond (.t 72) (.seq (.reg none [
          ⟨(some 2), .mv (.c (.v (.bool false))), none, none⟩])
         .ret) .skip)))
       (.reg none [
        ⟨(some 50), .mv (.t 5), none, none⟩,
        ⟨(some 51), .bin .add (.t 50) (.c (.v (.int .i64 1))), none, none⟩,
        ⟨(some 5), .mv (.t 51), none, none⟩]))))))))
    (.reg none [
     ⟨(some 35), .mv (.t 4), none, none⟩,
     ⟨(some 36), .bin .add (.t 35) (.c (.v (.int .i64 1))), none, none⟩,
     ⟨(some 4), .mv (.t 36), none, none⟩]))))))
  (.seq (.reg none [
   ⟨(some 2), .mv (.c (.v (.bool true))), none, none⟩])
  .ret)))))
def rightI (d : Det) (m : Nat) (f : AF) (S : St) : Prop :=
  ∃ i : Nat, i ≤ d.next.length ∧ m = d.next.length - i ∧ f 4 = encI i ∧ f 3 = encI d.next.length ∧ f 1 = .ptr 0 0 0 ∧ S.g 0 = some (.arr 3 [encDet d]) ∧ (d.next.take i).all (rowOk d) = true
def rightJ (d : Det) (i : Nat) (r : List Int) (m : Nat) (f : AF) (S : St) : Prop :=
  ∃ j : Nat, j ≤ r.length ∧ m = r.length - j ∧ f 5 = encI j ∧ f 4 = encI i ∧ f 3 = encI d.next.length ∧ f 1 = .ptr 0 0 0 ∧ S.g 0 = some (.arr 3 [encDet d]) ∧ (r.take j).all (fun t => decide (0 ≤ t) && decide (t < d.next.length)) = true
theorem caesuraref15_Right_body (P : Program) (d : Det) (ok : DetOk d) : AW P c_caesuraref15_Right (RetK [2] (FzK (encB (rightD d)))) (argF [encDet d]) S0 := by
  have k1 := ok.next
  have k2 := ok.fin
  have k3 := ok.signs
  unfold Len at k1 k2
  by_cases h1 : d.signs < 1
  · have hr : rightD d = false := by simp [rightD]; omega
    simp [Z0h, Z0c, Z0d, Z09, Z0a, Z0i, Z0b, Z0f, Z0g, Z2z, Z2y, Z07, Z08, Z06, Z01, Z02, Z00, Z04, Z05, Z03, Z1z, Z1y, Z46, Z48, Z47, Z45, Z1n, Z1o, Z1m, Z3n, Z3k, Z3m, Z3l, Z3o, Z1l, Z29, Z32, Z3x, Z1i, Z1j, Z1k, Z3v, Z3w, Z1g, Z28, Z1h, Z3i, Z3f, Z3h, Z3g, Z3j, Z41, Z40, Z0t, Z0u, Z0v, Z0s, Z1f, Z4c, Z4b, Z4d, Z4a, Z49, ex, Z43, Z42, ev_t, ev_c, Z27, Z26, Z4e, Z4f, Z2m, Z2l, Z2f, Z2j, Z2k, Z2g, Z2h, Z2i, putc, exBslice, lfill, exField, exIdxV, exIdxP, exBox, exAlloc, exLoad, exStore, exFieldA, exIdxA, exLen, exPick, exUn, exBeq, exMM, exSeq, seqGo, exExt, binV, intOp, subc, AV.solid, S0, encI, encB, c_caesuraref15_Right, encDet, encIss, encBs, h1, hr]
    exact FzK_B false _
  by_cases h2 : 400 < d.signs
  · have hr : rightD d = false := by simp [rightD]; omega
    simp [Z0h, Z0c, Z0d, Z09, Z0a, Z0i, Z0b, Z0f, Z0g, Z2z, Z2y, Z07, Z08, Z06, Z01, Z02, Z00, Z04, Z05, Z03, Z1z, Z1y, Z46, Z48, Z47, Z45, Z1n, Z1o, Z1m, Z3n, Z3k, Z3m, Z3l, Z3o, Z1l, Z29, Z32, Z3x, Z1i, Z1j, Z1k, Z3v, Z3w, Z1g, Z28, Z1h, Z3i, Z3f, Z3h, Z3g, Z3j, Z41, Z40, Z0t, Z0u, Z0v, Z0s, Z1f, Z4c, Z4b, Z4d, Z4a, Z49, ex, Z43, Z42, ev_t, ev_c, Z27, Z26, Z4e, Z4f, Z2m, Z2l, Z2f, Z2j, Z2k, Z2g, Z2h, Z2i, putc, exBslice, lfill, exField, exIdxV, exIdxP, exBox, exAlloc, exLoad, exStore, exFieldA, exIdxA, exLen, exPick, exUn, exBeq, exMM, exSeq, seqGo, exExt, binV, intOp, subc, AV.solid, S0, encI, encB, c_caesuraref15_Right, encDet, encIss, encBs, h1, h2, hr]
    exact FzK_B false _
  by_cases h3 : (d.next.length : Int) < 1
  · have hr : rightD d = false := by simp [rightD]; omega
    simp [Z0h, Z0c, Z0d, Z09, Z0a, Z0i, Z0b, Z0f, Z0g, Z2z, Z2y, Z07, Z08, Z06, Z01, Z02, Z00, Z04, Z05, Z03, Z1z, Z1y, Z46, Z48, Z47, Z45, Z1n, Z1o, Z1m, Z3n, Z3k, Z3m, Z3l, Z3o, Z1l, Z29, Z32, Z3x, Z1i, Z1j, Z1k, Z3v, Z3w, Z1g, Z28, Z1h, Z3i, Z3f, Z3h, Z3g, Z3j, Z41, Z40, Z0t, Z0u, Z0v, Z0s, Z1f, Z4c, Z4b, Z4d, Z4a, Z49, ex, Z43, Z42, ev_t, ev_c, Z27, Z26, Z4e, Z4f, Z2m, Z2l, Z2f, Z2j, Z2k, Z2g, Z2h, Z2i, putc, exBslice, lfill, exField, exIdxV, exIdxP, exBox, exAlloc, exLoad, exStore, exFieldA, exIdxA, exLen, exPick, exUn, exBeq, exMM, exSeq, seqGo, exExt, binV, intOp, subc, AV.solid, S0, encI, encB, c_caesuraref15_Right, encDet, encIss, encBs, h1, h2, h3, hr]
    exact FzK_B false _
  by_cases h4 : (3000 : Int) < d.next.length
  · have hr : rightD d = false := by simp [rightD]; omega
    simp [Z0h, Z0c, Z0d, Z09, Z0a, Z0i, Z0b, Z0f, Z0g, Z2z, Z2y, Z07, Z08, Z06, Z01, Z02, Z00, Z04, Z05, Z03, Z1z, Z1y, Z46, Z48, Z47, Z45, Z1n, Z1o, Z1m, Z3n, Z3k, Z3m, Z3l, Z3o, Z1l, Z29, Z32, Z3x, Z1i, Z1j, Z1k, Z3v, Z3w, Z1g, Z28, Z1h, Z3i, Z3f, Z3h, Z3g, Z3j, Z41, Z40, Z0t, Z0u, Z0v, Z0s, Z1f, Z4c, Z4b, Z4d, Z4a, Z49, ex, Z43, Z42, ev_t, ev_c, Z27, Z26, Z4e, Z4f, Z2m, Z2l, Z2f, Z2j, Z2k, Z2g, Z2h, Z2i, putc, exBslice, lfill, exField, exIdxV, exIdxP, exBox, exAlloc, exLoad, exStore, exFieldA, exIdxA, exLen, exPick, exUn, exBeq, exMM, exSeq, seqGo, exExt, binV, intOp, subc, AV.solid, S0, encI, encB, c_caesuraref15_Right, encDet, encIss, encBs, h1, h2, h3, h4, hr]
    exact FzK_B false _
  by_cases h5 : d.fin.length = d.next.length
  · have hc : ((d.fin.length : Int) != d.next.length) = false := by simp [h5]
    simp [Z0h, Z0c, Z0d, Z09, Z0a, Z0i, Z0b, Z0f, Z0g, Z2z, Z2y, Z07, Z08, Z06, Z01, Z02, Z00, Z04, Z05, Z03, Z1z, Z1y, Z46, Z48, Z47, Z45, Z1n, Z1o, Z1m, Z3n, Z3k, Z3m, Z3l, Z3o, Z1l, Z29, Z32, Z3x, Z1i, Z1j, Z1k, Z3v, Z3w, Z1g, Z28, Z1h, Z3i, Z3f, Z3h, Z3g, Z3j, Z41, Z40, Z0t, Z0u, Z0v, Z0s, Z1f, Z4c, Z4b, Z4d, Z4a, Z49, ex, Z43, Z42, ev_t, ev_c, Z27, Z26, Z4e, Z4f, Z2m, Z2l, Z2f, Z2j, Z2k, Z2g, Z2h, Z2i, putc, exBslice, lfill, exField, exIdxV, exIdxP, exBox, exAlloc, exLoad, exStore, exFieldA, exIdxA, exLen, exPick, exUn, exBeq, exMM, exSeq, seqGo, exExt, binV, intOp, subc, AV.solid, S0, encI, encB, c_caesuraref15_Right, encDet, encIss, encBs, h1, h2, h3, h4, hc]
    refine AW_loop (rightI d) d.next.length ?_ ?_
    · refine ⟨0, by omega, by omega, ?_, ?_, ?_, ?_, ?_⟩ <;> simp [Z43, Z27, Z26, encI, encDet, encIss, encBs, Z4e]
    · rintro m f S ⟨i, hi, rfl, e4, e3, e1, eg, hp⟩
      by_cases hlt : i < d.next.length
      · have kr := ok.rows _ (List.getElem_mem hlt)
        unfold Len at kr
        have hri : rowOk d d.next[i] = false → rightD d = false := by
          intro h
          simp only [rightD]
          have : d.next.all (rowOk d) = false := by
            rw [List.all_eq_false]; exact ⟨_, List.getElem_mem hlt, by simp [h]⟩
          simp [this]
        by_cases hrl : ((d.next[i]).length : Int) = d.signs
        · have hc1 : (((d.next[i]).length : Int) != d.signs) = false := by simp [hrl]
          simp [Z0h, Z0c, Z0d, Z09, Z0a, Z0i, Z0b, Z0f, Z0g, Z2z, Z2y, Z07, Z08, Z06, Z01, Z02, Z00, Z04, Z05, Z03, Z1z, Z1y, Z46, Z48, Z47, Z45, Z1n, Z1o, Z1m, Z3n, Z3k, Z3m, Z3l, Z3o, Z1l, Z29, Z32, Z3x, Z1i, Z1j, Z1k, Z3v, Z3w, Z1g, Z28, Z1h, Z3i, Z3f, Z3h, Z3g, Z3j, Z41, Z40, Z0t, Z0u, Z0v, Z0s, Z1f, Z4c, Z4b, Z4d, Z4a, Z49, ex, Z43, Z42, ev_t, ev_c, Z27, Z26, Z4e, Z4f, Z2m, Z2l, Z2f, Z2j, Z2k, Z2g, Z2h, Z2i, putc, exBslice, lfill, exField, exIdxV, exIdxP, exBox, exAlloc, exLoad, exStore, exFieldA, exIdxA, exLen, exPick, exUn, exBeq, exMM, exSeq, seqGo, exExt, binV, intOp, subc, AV.solid, S0, encI, encB, e4, e3, e1, eg, encDet, encIss, encBs, encIs, hlt, hc1]
          refine AW_loop (rightJ d i d.next[i]) (d.next[i]).length ?_ ?_
          · refine ⟨0, by omega, by omega, ?_, ?_, ?_, ?_, ?_, ?_⟩ <;> simp [Z43, e4, e3, e1, eg, encI, encDet, encIss, encBs, encIs]
          · rintro m f S ⟨j, hj, rfl, e5, e4, e3, e1, eg, hq⟩
            by_cases hjl : j < (d.next[i]).length
            · have hjs : (j : Int) < d.signs := by omega
              have hrow : ¬ (0 ≤ (d.next[i])[j] ∧ (d.next[i])[j] < d.next.length) → rowOk d d.next[i] = false := by
                intro h
                have : (d.next[i]).all (fun t => decide (0 ≤ t) && decide (t < d.next.length)) = false := by
                  rw [List.all_eq_false]; refine ⟨_, List.getElem_mem hjl, ?_⟩
                  simp only [Bool.and_eq_true, decide_eq_true_eq]; exact h
                simp [rowOk, this]
              by_cases hn : (d.next[i])[j] < 0
              · have hr := hri (hrow (by omega))
                simp [Z0h, Z0c, Z0d, Z09, Z0a, Z0i, Z0b, Z0f, Z0g, Z2z, Z2y, Z07, Z08, Z06, Z01, Z02, Z00, Z04, Z05, Z03, Z1z, Z1y, Z46, Z48, Z47, Z45, Z1n, Z1o, Z1m, Z3n, Z3k, Z3m, Z3l, Z3o, Z1l, Z29, Z32, Z3x, Z1i, Z1j, Z1k, Z3v, Z3w, Z1g, Z28, Z1h, Z3i, Z3f, Z3h, Z3g, Z3j, Z41, Z40, Z0t, Z0u, Z0v, Z0s, Z1f, Z4c, Z4b, Z4d, Z4a, Z49, ex, Z43, Z42, ev_t, ev_c, Z27, Z26, Z4e, Z4f, Z2m, Z2l, Z2f, Z2j, Z2k, Z2g, Z2h, Z2i, putc, exBslice, lfill, exField, exIdxV, exIdxP, exBox, exAlloc, exLoad, exStore, exFieldA, exIdxA, exLen, exPick, exUn, exBeq, exMM, exSeq, seqGo, exExt, binV, intOp, subc, AV.solid, S0, encI, encB, e5, e4, e3, e1, eg, encDet, encIss, encBs, encIs, hlt, hjl, hjs, hn, hr]
                exact FzK_B false _
              by_cases hg : (d.next.length : Int) ≤ (d.next[i])[j]
              · have hr := hri (hrow (by omega))
                simp [Z0h, Z0c, Z0d, Z09, Z0a, Z0i, Z0b, Z0f, Z0g, Z2z, Z2y, Z07, Z08, Z06, Z01, Z02, Z00, Z04, Z05, Z03, Z1z, Z1y, Z46, Z48, Z47, Z45, Z1n, Z1o, Z1m, Z3n, Z3k, Z3m, Z3l, Z3o, Z1l, Z29, Z32, Z3x, Z1i, Z1j, Z1k, Z3v, Z3w, Z1g, Z28, Z1h, Z3i, Z3f, Z3h, Z3g, Z3j, Z41, Z40, Z0t, Z0u, Z0v, Z0s, Z1f, Z4c, Z4b, Z4d, Z4a, Z49, ex, Z43, Z42, ev_t, ev_c, Z27, Z26, Z4e, Z4f, Z2m, Z2l, Z2f, Z2j, Z2k, Z2g, Z2h, Z2i, putc, exBslice, lfill, exField, exIdxV, exIdxP, exBox, exAlloc, exLoad, exStore, exFieldA, exIdxA, exLen, exPick, exUn, exBeq, exMM, exSeq, seqGo, exExt, binV, intOp, subc, AV.solid, S0, encI, encB, e5, e4, e3, e1, eg, encDet, encIss, encBs, encIs, hlt, hjl, hjs, hn, hg, hr]
                exact FzK_B false _
              simp [Z0h, Z0c, Z0d, Z09, Z0a, Z0i, Z0b, Z0f, Z0g, Z2z, Z2y, Z07, Z08, Z06, Z01, Z02, Z00, Z04, Z05, Z03, Z1z, Z1y, Z46, Z48, Z47, Z45, Z1n, Z1o, Z1m, Z3n, Z3k, Z3m, Z3l, Z3o, Z1l, Z29, Z32, Z3x, Z1i, Z1j, Z1k, Z3v, Z3w, Z1g, Z28, Z1h, Z3i, Z3f, Z3h, Z3g, Z3j, Z41, Z40, Z0t, Z0u, Z0v, Z0s, Z1f, Z4c, Z4b, Z4d, Z4a, Z49, ex, Z43, Z42, ev_t, ev_c, Z27, Z26, Z4e, Z4f, Z2m, Z2l, Z2f, Z2j, Z2k, Z2g, Z2h, Z2i, putc, exBslice, lfill, exField, exIdxV, exIdxP, exBox, exAlloc, exLoad, exStore, exFieldA, exIdxA, exLen, exPick, exUn, exBeq, exMM, exSeq, seqGo, exExt, binV, intOp, subc, AV.solid, S0, encI, encB, e5, e4, e3, e1, eg, encDet, encIss, encBs, encIs, hlt, hjl, hjs, hn, hg]
              rw [wrap_in _ (by omega)]
              refine ⟨(d.next[i]).length - (j + 1), by omega, j + 1, by omega, rfl, ?_, ?_, ?_, ?_, ?_, by rw [all_take_succ _ _ _ hjl, hq]; simp; omega⟩ <;> simp [Z43, e5, e4, e3, e1, eg, encI, encDet, encIss, encBs, encIs]
            · have hjs : ¬ (j : Int) < d.signs := by omega
              simp [Z0h, Z0c, Z0d, Z09, Z0a, Z0i, Z0b, Z0f, Z0g, Z2z, Z2y, Z07, Z08, Z06, Z01, Z02, Z00, Z04, Z05, Z03, Z1z, Z1y, Z46, Z48, Z47, Z45, Z1n, Z1o, Z1m, Z3n, Z3k, Z3m, Z3l, Z3o, Z1l, Z29, Z32, Z3x, Z1i, Z1j, Z1k, Z3v, Z3w, Z1g, Z28, Z1h, Z3i, Z3f, Z3h, Z3g, Z3j, Z41, Z40, Z0t, Z0u, Z0v, Z0s, Z1f, Z4c, Z4b, Z4d, Z4a, Z49, ex, Z43, Z42, ev_t, ev_c, Z27, Z26, Z4e, Z4f, Z2m, Z2l, Z2f, Z2j, Z2k, Z2g, Z2h, Z2i, putc, exBslice, lfill, exField, exIdxV, exIdxP, exBox, exAlloc, exLoad, exStore, exFieldA, exIdxA, exLen, exPick, exUn, exBeq, exMM, exSeq, seqGo, exExt, binV, intOp, subc, AV.solid, S0, encI, encB, e5, e4, e3, e1, eg, encDet, encIss, encBs, encIs, hjs]
              rw [wrap_in _ (by omega)]
              rw [List.take_of_length_le (by omega)] at hq
              refine ⟨d.next.length - (i + 1), by omega, i + 1, by omega, rfl, ?_, ?_, ?_, ?_, by rw [all_take_succ _ _ _ hlt, hp, rowOk, hq]; simp [hrl]⟩ <;> simp [Z43, e5, e4, e3, e1, eg, encI, encDet, encIss, encBs, encIs]
        · have hr := hri (by simp [rowOk, hrl])
          have hc1 : (((d.next[i]).length : Int) != d.signs) = true := by simp [hrl]
          simp [Z0h, Z0c, Z0d, Z09, Z0a, Z0i, Z0b, Z0f, Z0g, Z2z, Z2y, Z07, Z08, Z06, Z01, Z02, Z00, Z04, Z05, Z03, Z1z, Z1y, Z46, Z48, Z47, Z45, Z1n, Z1o, Z1m, Z3n, Z3k, Z3m, Z3l, Z3o, Z1l, Z29, Z32, Z3x, Z1i, Z1j, Z1k, Z3v, Z3w, Z1g, Z28, Z1h, Z3i, Z3f, Z3h, Z3g, Z3j, Z41, Z40, Z0t, Z0u, Z0v, Z0s, Z1f, Z4c, Z4b, Z4d, Z4a, Z49, ex, Z43, Z42, ev_t, ev_c, Z27, Z26, Z4e, Z4f, Z2m, Z2l, Z2f, Z2j, Z2k, Z2g, Z2h, Z2i, putc, exBslice, lfill, exField, exIdxV, exIdxP, exBox, exAlloc, exLoad, exStore, exFieldA, exIdxA, exLen, exPick, exUn, exBeq, exMM, exSeq, seqGo, exExt, binV, intOp, subc, AV.solid, S0, encI, encB, e4, e3, e1, eg, encDet, encIss, encBs, encIs, hlt, hc1, hr]
          exact FzK_B false _
      · have hr : rightD d = true := by
          rw [List.take_of_length_le (by omega)] at hp
          simp [rightD, hp]; omega
        simp [Z0h, Z0c, Z0d, Z09, Z0a, Z0i, Z0b, Z0f, Z0g, Z2z, Z2y, Z07, Z08, Z06, Z01, Z02, Z00, Z04, Z05, Z03, Z1z, Z1y, Z46, Z48, Z47, Z45, Z1n, Z1o, Z1m, Z3n, Z3k, Z3m, Z3l, Z3o, Z1l, Z29, Z32, Z3x, Z1i, Z1j, Z1k, Z3v, Z3w, Z1g, Z28, Z1h, Z3i, Z3f, Z3h, Z3g, Z3j, Z41, Z40, Z0t, Z0u, Z0v, Z0s, Z1f, Z4c, Z4b, Z4d, Z4a, Z49, ex, Z43, Z42, ev_t, ev_c, Z27, Z26, Z4e, Z4f, Z2m, Z2l, Z2f, Z2j, Z2k, Z2g, Z2h, Z2i, putc, exBslice, lfill, exField, exIdxV, exIdxP, exBox, exAlloc, exLoad, exStore, exFieldA, exIdxA, exLen, exPick, exUn, exBeq, exMM, exSeq, seqGo, exExt, binV, intOp, subc, AV.solid, S0, encI, encB, e4, e3, e1, eg, encDet, encIss, encBs, encIs, hlt, hr]
        exact FzK_B true _
  · have hr : rightD d = false := by simp [rightD]; omega
    have hc : ((d.fin.length : Int) != d.next.length) = true := by simp; omega
    simp [Z0h, Z0c, Z0d, Z09, Z0a, Z0i, Z0b, Z0f, Z0g, Z2z, Z2y, Z07, Z08, Z06, Z01, Z02, Z00, Z04, Z05, Z03, Z1z, Z1y, Z46, Z48, Z47, Z45, Z1n, Z1o, Z1m, Z3n, Z3k, Z3m, Z3l, Z3o, Z1l, Z29, Z32, Z3x, Z1i, Z1j, Z1k, Z3v, Z3w, Z1g, Z28, Z1h, Z3i, Z3f, Z3h, Z3g, Z3j, Z41, Z40, Z0t, Z0u, Z0v, Z0s, Z1f, Z4c, Z4b, Z4d, Z4a, Z49, ex, Z43, Z42, ev_t, ev_c, Z27, Z26, Z4e, Z4f, Z2m, Z2l, Z2f, Z2j, Z2k, Z2g, Z2h, Z2i, putc, exBslice, lfill, exField, exIdxV, exIdxP, exBox, exAlloc, exLoad, exStore, exFieldA, exIdxA, exLen, exPick, exUn, exBeq, exMM, exSeq, seqGo, exExt, binV, intOp, subc, AV.solid, S0, encI, encB, c_caesuraref15_Right, encDet, encIss, encBs, h1, h2, h3, h4, hc, hr]
    exact FzK_B false _
end Go.Rf


set_option linter.unusedVariables false
set_option linter.unusedSimpArgs false
namespace Go.Rf
def c_det_Right_1 : AC :=
  (.seq (.reg none [
   ⟨(some 3), .mv (.c (.v (.bool false))), none, none⟩])
  (.seq (.reg none [
   ⟨(some 4), .mv (.t 0), none, none⟩,
   ⟨(some 5), .bin .lss (.t 4) (.c (.v (.int .i64 0))), none, none⟩,
   ⟨(some 6), .mv (.t 5), none, none⟩,
   ⟨(some 7), .mv (.t 0), (some (6, false)), none⟩,
   ⟨(some 8), .load none (.t 1), (some (6, false)), none⟩,
   ⟨(some 9), .bin .geq (.t 7) (.t 8), (some (6, false)), none⟩,
   ⟨(some 10), .pick (.t 6) (.c (.v (.bool true))) (.t 9), none, none⟩,
   ⟨(some 3), .mv (.t 10), none, none⟩])
  .ret))
def c_det_Right_2 (f_slices_ContainsFunc_Sint_int_ : FuncId) : AC :=
  (.seq (.reg none [
   ⟨(some 4), .mv (.c (.v (.bool false))), none, none⟩])
  (.seq (.reg none [
   ⟨(some 5), .mv (.t 0), none, none⟩,
   ⟨(some 6), .len (.t 5), none, none⟩,
   ⟨(some 7), .fieldA 0 (.t 1), none, none⟩,
   ⟨(some 8), .load none (.t 7), none, none⟩,
   ⟨(some 9), .bin .neq (.t 6) (.t 8), none, none⟩,
   ⟨(some 10), .mv (.t 9), none, none⟩,
   ⟨(some 11), .mv (.t 0), (some (10, false)), none⟩,
   ⟨(some 12), .load none (.t 2), (some (10, false)), none⟩,
   ⟨(some 13), .mv (.c .junk), (some (10, false)), (some ((.c (.clo f_slices_ContainsFunc_Sint_int_ [] [])), [(.t 11), (.t 12)]))⟩,
   ⟨(some 14), .pick (.t 10) (.c (.v (.bool true))) (.t 13), none, none⟩,
   ⟨(some 4), .mv (.t 14), none, none⟩])
  .ret))
def c_det_Right (f_det_Right_1 f_det_Right_2 f_slices_ContainsFunc_SSint_Sint_ : FuncId) : AC :=
  (.seq (.reg none [
   ⟨(some 1), .box 3 (.t 0), none, none⟩,
   ⟨(some 2), .mv (.c (.v (.bool false))), none, none⟩])
  (.seq (.reg none [
   ⟨(some 5), .fieldA 1 (.t 1), none, none⟩,
   ⟨(some 6), .load none (.t 5), none, none⟩,
   ⟨(some 7), .len (.t 6), none, none⟩,
   ⟨(some 3), .alloc (.v (.int .i64 0)) 1, none, none⟩,
   ⟨none, .store 1 (.t 3) (.t 7), none, none⟩])
  (.seq (.seq (.reg none [
   ⟨(some 8), .fieldA 0 (.t 1), none, none⟩,
   ⟨(some 9), .load none (.t 8), none, none⟩,
   ⟨(some 10), .bin .lss (.t 9) (.c (.v (.int .i64 1))), none, none⟩,
   ⟨(some 11), .mv (.t 10), none, none⟩,
   ⟨(some 12), .fieldA 0 (.t 1), (some (11, false)), none⟩,
   ⟨(some 13), .load none (.t 12), (some (11, false)), none⟩,
   ⟨(some 14), .bin .gtr (.t 13) (.c (.v (.int .i64 400))), (some (11, false)), none⟩,
   ⟨(some 15), .pick (.t 11) (.c (.v (.bool true))) (.t 14), none, none⟩,
   ⟨(some 16), .mv (.t 15), none, none⟩,
   ⟨(some 17), .load none (.t 3), (some (16, false)), none⟩,
   ⟨(some 18), .bin .eql (.t 17) (.c (.v (.int .i64 0))), (some (16, false)), none⟩,
   ⟨(some 19), .pick (.t 16) (.c (.v (.bool true))) (.t 18), none, none⟩,
   ⟨(some 20), .mv (.t 19), none, none⟩,
   ⟨(some 21), .load none (.t 3), (some (20, false)), none⟩,
   ⟨(some 22), .bin .gtr (.t 21) (.c (.v (.int .i64 3000))), (some (20, false)), none⟩,
   ⟨(some 23), .pick (.t 20) (.c (.v (.bool true))) (.t 22), none, none⟩,
   ⟨(some 24), .mv (.t 23), none, none⟩,
   ⟨(some 25), .fieldA 2 (.t 1), (some (24, false)), none⟩,
   ⟨(some 26), .load none (.t 25), (some (24, false)), none⟩,
   ⟨(some 27), .len (.t 26), (some (24, false)), none⟩,
   ⟨(some 28), .load none (.t 3), (some (24, false)), none⟩,
   ⟨(some 29), .bin .neq (.t 27) (.t 28), (some (24, false)), none⟩,
   ⟨(some 30), .pick (.t 24) (.c (.v (.bool true))) (.t 29), none, none⟩])
  (.cond (.t 30) (.seq (.reg none [
    ⟨(some 2), .mv (.c (.v (.bool false))), none, none⟩])
   .ret) .skip))
  (.seq (.reg none [
   ⟨(some 31), .mkf f_det_Right_1 [] [(.t 3)], none, none⟩,
   ⟨(some 4), .alloc (.v .nilFunc) 1, none, none⟩,
   ⟨none, .store 1 (.t 4) (.t 31), none, none⟩])
  (.seq (.reg none [
   ⟨(some 32), .fieldA 1 (.t 1), none, none⟩,
   ⟨(some 33), .load none (.t 32), none, none⟩,
   ⟨(some 34), .mkf f_det_Right_2 [] [(.t 1), (.t 4)], none, none⟩,
   ⟨(some 35), .mv (.c .junk), none, (some ((.c (.clo f_slices_ContainsFunc_SSint_Sint_ [] [])), [(.t 33), (.t 34)]))⟩,
   ⟨(some 36), .un .not (.t 35), none, none⟩,
   ⟨(some 2), .mv (.t 36), none, none⟩])
  .ret)))))
def outB (k : Nat) (t : Int) : Bool := decide (t < 0) || decide ((k : Int) ≤ t)
theorem det_Right_1_body (P : Program) (t : Int) (k : Nat) : AW P c_det_Right_1 (RetK [3] (FzK (encB (outB k t)))) (argF [encI t, .eptr (encI k) 0]) S0 := by
  by_cases h1 : t < 0
  · simp [Z0h, Z0c, Z0d, Z09, Z0a, Z0i, Z0b, Z0f, Z0g, Z2z, Z2y, Z07, Z08, Z06, Z01, Z02, Z00, Z04, Z05, Z03, Z1z, Z1y, Z46, Z48, Z47, Z45, Z1n, Z1o, Z1m, Z3n, Z3k, Z3m, Z3l, Z3o, Z1l, Z29, Z32, Z3x, Z1i, Z1j, Z1k, Z3v, Z3w, Z1g, Z28, Z1h, Z3i, Z3f, Z3h, Z3g, Z3j, Z41, Z40, Z0t, Z0u, Z0v, Z0s, Z1f, Z4c, Z4b, Z4d, Z4a, Z49, ex, Z43, Z42, ev_t, ev_c, Z27, Z26, Z4e, Z4f, Z2m, Z2l, Z2f, Z2j, Z2k, Z2g, Z2h, Z2i, putc, exBslice, lfill, exField, exIdxV, exIdxP, exBox, exAlloc, exLoad, exStore, exFieldA, exIdxA, exLen, exPick, exUn, exBeq, exMM, exSeq, seqGo, exExt, binV, intOp, subc, AV.solid, S0, encI, encB, c_det_Right_1, h1, outB]
    exact FzK_B true _
  · simp [Z0h, Z0c, Z0d, Z09, Z0a, Z0i, Z0b, Z0f, Z0g, Z2z, Z2y, Z07, Z08, Z06, Z01, Z02, Z00, Z04, Z05, Z03, Z1z, Z1y, Z46, Z48, Z47, Z45, Z1n, Z1o, Z1m, Z3n, Z3k, Z3m, Z3l, Z3o, Z1l, Z29, Z32, Z3x, Z1i, Z1j, Z1k, Z3v, Z3w, Z1g, Z28, Z1h, Z3i, Z3f, Z3h, Z3g, Z3j, Z41, Z40, Z0t, Z0u, Z0v, Z0s, Z1f, Z4c, Z4b, Z4d, Z4a, Z49, ex, Z43, Z42, ev_t, ev_c, Z27, Z26, Z4e, Z4f, Z2m, Z2l, Z2f, Z2j, Z2k, Z2g, Z2h, Z2i, putc, exBslice, lfill, exField, exIdxV, exIdxP, exBox, exAlloc, exLoad, exStore, exFieldA, exIdxA, exLen, exPick, exUn, exBeq, exMM, exSeq, seqGo, exExt, binV, intOp, subc, AV.solid, S0, encI, encB, c_det_Right_1, h1, outB]
    exact FzK_B _ _
def oddRow (d : Det) (r : List Int) : Bool := ((r.length : Int) != d.signs) || r.any (outB d.next.length)
theorem det_Right_2_body {P : Program} {f1 fc : FuncId} (d : Det) (r : List Int) (hc : PureC P fc [encIs r, .clo f1 [] [.eptr (encI d.next.length) 0]] (encB (r.any (outB d.next.length)))) :
    AW P (c_det_Right_2 fc) (RetK [4] (FzK (encB (oddRow d r)))) (argF [encIs r, .eptr (encDet d) 0, .eptr (.clo f1 [] [.eptr (encI d.next.length) 0]) 0]) S0 := by
  cases h1 : ((r.length : Int) != d.signs) with
  | true =>
    simp [Z0h, Z0c, Z0d, Z09, Z0a, Z0i, Z0b, Z0f, Z0g, Z2z, Z2y, Z07, Z08, Z06, Z01, Z02, Z00, Z04, Z05, Z03, Z1z, Z1y, Z46, Z48, Z47, Z45, Z1n, Z1o, Z1m, Z3n, Z3k, Z3m, Z3l, Z3o, Z1l, Z29, Z32, Z3x, Z1i, Z1j, Z1k, Z3v, Z3w, Z1g, Z28, Z1h, Z3i, Z3f, Z3h, Z3g, Z3j, Z41, Z40, Z0t, Z0u, Z0v, Z0s, Z1f, Z4c, Z4b, Z4d, Z4a, Z49, ex, Z43, Z42, ev_t, ev_c, Z27, Z26, Z4e, Z4f, Z2m, Z2l, Z2f, Z2j, Z2k, Z2g, Z2h, Z2i, putc, exBslice, lfill, exField, exIdxV, exIdxP, exBox, exAlloc, exLoad, exStore, exFieldA, exIdxA, exLen, exPick, exUn, exBeq, exMM, exSeq, seqGo, exExt, binV, intOp, subc, AV.solid, S0, encI, encB, c_det_Right_2, encIs, encDet, h1, oddRow]
    exact FzK_B true _
  | false =>
    simp [Z0h, Z0c, Z0d, Z09, Z0a, Z0i, Z0b, Z0f, Z0g, Z2z, Z2y, Z07, Z08, Z06, Z01, Z02, Z00, Z04, Z05, Z03, Z1z, Z1y, Z46, Z48, Z47, Z45, Z1n, Z1o, Z1m, Z3n, Z3k, Z3m, Z3l, Z3o, Z1l, Z29, Z32, Z3x, Z1i, Z1j, Z1k, Z3v, Z3w, Z1g, Z28, Z1h, Z3i, Z3f, Z3h, Z3g, Z3j, Z41, Z40, Z0t, Z0u, Z0v, Z0s, Z1f, Z4c, Z4b, Z4d, Z4a, Z49, ex, Z43, Z42, ev_t, ev_c, Z27, Z26, Z4e, Z4f, Z2m, Z2l, Z2f, Z2j, Z2k, Z2g, Z2h, Z2i, putc, exBslice, lfill, exField, exIdxV, exIdxP, exBox, exAlloc, exLoad, exStore, exFieldA, exIdxA, exLen, exPick, exUn, exBeq, exMM, exSeq, seqGo, exExt, binV, intOp, subc, AV.solid, S0, encI, encB, c_det_Right_2, encIs, encDet, h1, oddRow]
    refine CallR.pure hc (cl_cons (Z2s r) (cl_cons (.clo _ _ _ cl_nil (cl_cons (.eptr _ _ (Z2r _)) cl_nil)) cl_nil)) (Z2o _) ?_
    simp [Z0h, Z0c, Z0d, Z09, Z0a, Z0i, Z0b, Z0f, Z0g, Z2z, Z2y, Z07, Z08, Z06, Z01, Z02, Z00, Z04, Z05, Z03, Z1z, Z1y, Z46, Z48, Z47, Z45, Z1n, Z1o, Z1m, Z3n, Z3k, Z3m, Z3l, Z3o, Z1l, Z29, Z32, Z3x, Z1i, Z1j, Z1k, Z3v, Z3w, Z1g, Z28, Z1h, Z3i, Z3f, Z3h, Z3g, Z3j, Z41, Z40, Z0t, Z0u, Z0v, Z0s, Z1f, Z4c, Z4b, Z4d, Z4a, Z49, ex, Z43, Z42, ev_t, ev_c, Z27, Z26, Z4e, Z4f, Z2m, Z2l, Z2f, Z2j, Z2k, Z2g, Z2h, Z2i, putc, exBslice, lfill, exField, exIdxV, exIdxP, exBox, exAlloc, exLoad, exStore, exFieldA, exIdxA, exLen, exPick, exUn, exBeq, exMM, exSeq, seqGo, exExt, binV, intOp, subc, AV.solid, S0, encI, encB]
    exact FzK_B _ _
theorem rowOk_odd (d : Det) (r : List Int) : rowOk d r = !oddRow d r := by
  unfold rowOk oddRow
  rw [Bool.not_or, List.not_any_eq_all_not]
  congr 1
  · by_cases h : (r.length : Int) = d.signs <;> simp [h]
  · congr 1; funext t
    unfold outB
    by_cases h1 : t < 0 <;> by_cases h2 : (d.next.length : Int) ≤ t <;> simp [h1, h2] <;> omega
theorem det_Right_body {P : Program} {f1 f2 fc : FuncId} (d : Det) (ok : DetOk d)
    (hc : PureC P fc [encIss d.next, .clo f2 [] [.eptr (encDet d) 0, .eptr (.clo f1 [] [.eptr (encI d.next.length) 0]) 0]] (encB (d.next.any (oddRow d)))) :
    AW P (c_det_Right f1 f2 fc) (RetK [2] (FzK (encB (rightD d)))) (argF [encDet d]) S0 := by
  have k1 := ok.next
  have k2 := ok.fin
  have k3 := ok.signs
  unfold Len at k1 k2
  by_cases h1 : d.signs < 1
  · have hr : rightD d = false := by simp [rightD]; omega
    simp [Z0h, Z0c, Z0d, Z09, Z0a, Z0i, Z0b, Z0f, Z0g, Z2z, Z2y, Z07, Z08, Z06, Z01, Z02, Z00, Z04, Z05, Z03, Z1z, Z1y, Z46, Z48, Z47, Z45, Z1n, Z1o, Z1m, Z3n, Z3k, Z3m, Z3l, Z3o, Z1l, Z29, Z32, Z3x, Z1i, Z1j, Z1k, Z3v, Z3w, Z1g, Z28, Z1h, Z3i, Z3f, Z3h, Z3g, Z3j, Z41, Z40, Z0t, Z0u, Z0v, Z0s, Z1f, Z4c, Z4b, Z4d, Z4a, Z49, ex, Z43, Z42, ev_t, ev_c, Z27, Z26, Z4e, Z4f, Z2m, Z2l, Z2f, Z2j, Z2k, Z2g, Z2h, Z2i, putc, exBslice, lfill, exField, exIdxV, exIdxP, exBox, exAlloc, exLoad, exStore, exFieldA, exIdxA, exLen, exPick, exUn, exBeq, exMM, exSeq, seqGo, exExt, binV, intOp, subc, AV.solid, S0, encI, encB, c_det_Right, encDet, encIss, encBs, h1, hr]
    exact FzK_B false _
  by_cases h2 : 400 < d.signs
  · have hr : rightD d = false := by simp [rightD]; omega
    simp [Z0h, Z0c, Z0d, Z09, Z0a, Z0i, Z0b, Z0f, Z0g, Z2z, Z2y, Z07, Z08, Z06, Z01, Z02, Z00, Z04, Z05, Z03, Z1z, Z1y, Z46, Z48, Z47, Z45, Z1n, Z1o, Z1m, Z3n, Z3k, Z3m, Z3l, Z3o, Z1l, Z29, Z32, Z3x, Z1i, Z1j, Z1k, Z3v, Z3w, Z1g, Z28, Z1h, Z3i, Z3f, Z3h, Z3g, Z3j, Z41, Z40, Z0t, Z0u, Z0v, Z0s, Z1f, Z4c, Z4b, Z4d, Z4a, Z49, ex, Z43, Z42, ev_t, ev_c, Z27, Z26, Z4e, Z4f, Z2m, Z2l, Z2f, Z2j, Z2k, Z2g, Z2h, Z2i, putc, exBslice, lfill, exField, exIdxV, exIdxP, exBox, exAlloc, exLoad, exStore, exFieldA, exIdxA, exLen, exPick, exUn, exBeq, exMM, exSeq, seqGo, exExt, binV, intOp, subc, AV.solid, S0, encI, encB, c_det_Right, encDet, encIss, encBs, h1, h2, hr]
    exact FzK_B false _
  by_cases h3 : (d.next.length : Int) = 0
  · have hr : rightD d = false := by simp [rightD]; omega
    have hc : ((d.next.length : Int) == 0) = true := by simp [h3]
    simp [Z0h, Z0c, Z0d, Z09, Z0a, Z0i, Z0b, Z0f, Z0g, Z2z, Z2y, Z07, Z08, Z06, Z01, Z02, Z00, Z04, Z05, Z03, Z1z, Z1y, Z46, Z48, Z47, Z45, Z1n, Z1o, Z1m, Z3n, Z3k, Z3m, Z3l, Z3o, Z1l, Z29, Z32, Z3x, Z1i, Z1j, Z1k, Z3v, Z3w, Z1g, Z28, Z1h, Z3i, Z3f, Z3h, Z3g, Z3j, Z41, Z40, Z0t, Z0u, Z0v, Z0s, Z1f, Z4c, Z4b, Z4d, Z4a, Z49, ex, Z43, Z42, ev_t, ev_c, Z27, Z26, Z4e, Z4f, Z2m, Z2l, Z2f, Z2j, Z2k, Z2g, Z2h, Z2i, putc, exBslice, lfill, exField, exIdxV, exIdxP, exBox, exAlloc, exLoad, exStore, exFieldA, exIdxA, exLen, exPick, exUn, exBeq, exMM, exSeq, seqGo, exExt, binV, intOp, subc, AV.solid, S0, encI, encB, c_det_Right, encDet, encIss, encBs, h1, h2, hc, hr]
    exact FzK_B false _
  have hc3 : ((d.next.length : Int) == 0) = false := by simpa using h3
  by_cases h4 : (3000 : Int) < d.next.length
  · have hr : rightD d = false := by simp [rightD]; omega
    simp [Z0h, Z0c, Z0d, Z09, Z0a, Z0i, Z0b, Z0f, Z0g, Z2z, Z2y, Z07, Z08, Z06, Z01, Z02, Z00, Z04, Z05, Z03, Z1z, Z1y, Z46, Z48, Z47, Z45, Z1n, Z1o, Z1m, Z3n, Z3k, Z3m, Z3l, Z3o, Z1l, Z29, Z32, Z3x, Z1i, Z1j, Z1k, Z3v, Z3w, Z1g, Z28, Z1h, Z3i, Z3f, Z3h, Z3g, Z3j, Z41, Z40, Z0t, Z0u, Z0v, Z0s, Z1f, Z4c, Z4b, Z4d, Z4a, Z49, ex, Z43, Z42, ev_t, ev_c, Z27, Z26, Z4e, Z4f, Z2m, Z2l, Z2f, Z2j, Z2k, Z2g, Z2h, Z2i, putc, exBslice, lfill, exField, exIdxV, exIdxP, exBox, exAlloc, exLoad, exStore, exFieldA, exIdxA, exLen, exPick, exUn, exBeq, exMM, exSeq, seqGo, exExt, binV, intOp, subc, AV.solid, S0, encI, encB, c_det_Right, encDet, encIss, encBs, h1, h2, hc3, h4, hr]
    exact FzK_B false _
  by_cases h5 : d.fin.length = d.next.length
  · have hc5 : ((d.fin.length : Int) != d.next.length) = false := by simp [h5]
    have hr : rightD d = !d.next.any (oddRow d) := by
      rw [List.not_any_eq_all_not]
      have : d.next.all (rowOk d) = d.next.all (fun r => !oddRow d r) := by congr 1; funext r; exact rowOk_odd d r
      rw [rightD, this]
      have a1 : decide (1 ≤ d.signs) = true := by simp; omega
      have a2 : decide (d.signs ≤ 400) = true := by simp; omega
      have a3 : decide (1 ≤ d.next.length) = true := by simp; omega
      have a4 : decide (d.next.length ≤ 3000) = true := by simp; omega
      simp [a1, a2, a3, a4, h5]
    simp [Z0h, Z0c, Z0d, Z09, Z0a, Z0i, Z0b, Z0f, Z0g, Z2z, Z2y, Z07, Z08, Z06, Z01, Z02, Z00, Z04, Z05, Z03, Z1z, Z1y, Z46, Z48, Z47, Z45, Z1n, Z1o, Z1m, Z3n, Z3k, Z3m, Z3l, Z3o, Z1l, Z29, Z32, Z3x, Z1i, Z1j, Z1k, Z3v, Z3w, Z1g, Z28, Z1h, Z3i, Z3f, Z3h, Z3g, Z3j, Z41, Z40, Z0t, Z0u, Z0v, Z0s, Z1f, Z4c, Z4b, Z4d, Z4a, Z49, ex, Z43, Z42, ev_t, ev_c, Z27, Z26, Z4e, Z4f, Z2m, Z2l, Z2f, Z2j, Z2k, Z2g, Z2h, Z2i, putc, exBslice, lfill, exField, exIdxV, exIdxP, exBox, exAlloc, exLoad, exStore, exFieldA, exIdxA, exLen, exPick, exUn, exBeq, exMM, exSeq, seqGo, exExt, binV, intOp, subc, AV.solid, S0, encI, encB, c_det_Right, encDet, encIss, encBs, h1, h2, hc3, h4, hc5]
    refine CallR.looks hc (FzL.cons (.closed _ (Z2t _)) (FzL.cons (.clo0 (FzL.cons (.box _ _ 3 (encDet d) _ ?_ (.closed _ (closed_Det d))) (FzL.cons (.box _ _ 1 (.clo f1 [] [.ptr 5 0 0]) _ ?_ (.clo0 (FzL.cons (.box _ _ 1 (encI d.next.length) _ ?_ (.closed _ (Z2r _))) FzL.nil))) FzL.nil))) FzL.nil)) (plain_B _) ?_
    · simp [Z4e, encDet, encIss, encBs, encI]
    · simp [Z4e]
    · simp [Z4e, encI]
    · simp [Z0h, Z0c, Z0d, Z09, Z0a, Z0i, Z0b, Z0f, Z0g, Z2z, Z2y, Z07, Z08, Z06, Z01, Z02, Z00, Z04, Z05, Z03, Z1z, Z1y, Z46, Z48, Z47, Z45, Z1n, Z1o, Z1m, Z3n, Z3k, Z3m, Z3l, Z3o, Z1l, Z29, Z32, Z3x, Z1i, Z1j, Z1k, Z3v, Z3w, Z1g, Z28, Z1h, Z3i, Z3f, Z3h, Z3g, Z3j, Z41, Z40, Z0t, Z0u, Z0v, Z0s, Z1f, Z4c, Z4b, Z4d, Z4a, Z49, ex, Z43, Z42, ev_t, ev_c, Z27, Z26, Z4e, Z4f, Z2m, Z2l, Z2f, Z2j, Z2k, Z2g, Z2h, Z2i, putc, exBslice, lfill, exField, exIdxV, exIdxP, exBox, exAlloc, exLoad, exStore, exFieldA, exIdxA, exLen, exPick, exUn, exBeq, exMM, exSeq, seqGo, exExt, binV, intOp, subc, AV.solid, S0, encI, encB, hr]
      exact FzK_B _ _
  · have hr : rightD d = false := by simp [rightD]; omega
    have hc5 : ((d.fin.length : Int) != d.next.length) = true := by simp; omega
    simp [Z0h, Z0c, Z0d, Z09, Z0a, Z0i, Z0b, Z0f, Z0g, Z2z, Z2y, Z07, Z08, Z06, Z01, Z02, Z00, Z04, Z05, Z03, Z1z, Z1y, Z46, Z48, Z47, Z45, Z1n, Z1o, Z1m, Z3n, Z3k, Z3m, Z3l, Z3o, Z1l, Z29, Z32, Z3x, Z1i, Z1j, Z1k, Z3v, Z3w, Z1g, Z28, Z1h, Z3i, Z3f, Z3h, Z3g, Z3j, Z41, Z40, Z0t, Z0u, Z0v, Z0s, Z1f, Z4c, Z4b, Z4d, Z4a, Z49, ex, Z43, Z42, ev_t, ev_c, Z27, Z26, Z4e, Z4f, Z2m, Z2l, Z2f, Z2j, Z2k, Z2g, Z2h, Z2i, putc, exBslice, lfill, exField, exIdxV, exIdxP, exBox, exAlloc, exLoad, exStore, exFieldA, exIdxA, exLen, exPick, exUn, exBeq, exMM, exSeq, seqGo, exExt, binV, intOp, subc, AV.solid, S0, encI, encB, c_det_Right, encDet, encIss, encBs, h1, h2, hc3, h4, hc5, hr]
    exact FzK_B false _
end Go.Rf


set_option linter.unusedVariables false
set_option linter.unusedSimpArgs false
namespace Go.Rf
def c_caesuraref15_Accepts (f_caesuraref15_Run : FuncId) : AC :=
  (.seq (.reg none [
   ⟨(some 2), .box 3 (.t 0), none, none⟩,
   ⟨(some 4), .mv (.c (.v (.bool false))), none, none⟩])
  (.seq (.reg none [
   ⟨(some 6), .load (some 3) (.t 2), none, none⟩,
   ⟨(some 7), .mv (.t 1), none, none⟩,
   ⟨(some 8), .mv (.c .junk), none, (some ((.c (.clo f_caesuraref15_Run [] [])), [(.t 6), (.t 7)]))⟩,
   ⟨(some 5), .mv (.t 8), none, none⟩])
  (.seq (.reg none [
   ⟨(some 9), .mv (.t 5), none, none⟩,
   ⟨(some 10), .bin .geq (.t 9) (.c (.v (.int .i64 0))), none, none⟩,
   ⟨(some 11), .mv (.t 10), none, none⟩,
   ⟨(some 12), .fieldA 2 (.t 2), (some (11, true)), none⟩,
   ⟨(some 13), .load none (.t 12), (some (11, true)), none⟩,
   ⟨(some 14), .mv (.t 5), (some (11, true)), none⟩,
   ⟨(some 15), .idxA 1 (.t 13) (.t 14), (some (11, true)), none⟩,
   ⟨(some 16), .load none (.t 15), (some (11, true)), none⟩,
   ⟨(some 17), .pick (.t 11) (.t 16) (.c (.v (.bool false))), none, none⟩,
   ⟨(some 4), .mv (.t 17), none, none⟩])
  .ret)))
def c_caesuraref15_Run (f_caesuraref15_Right : FuncId) : AC :=
  (.seq (.reg none [
   ⟨(some 2), .box 3 (.t 0), none, none⟩,
   ⟨(some 4), .mv (.c (.v (.int .i64 0))), none, none⟩])
  (.seq (.seq (.reg none [
   ⟨(some 7), .load (some 3) (.t 2), none, none⟩,
   ⟨(some 8), .mv (.c .junk), none, (some ((.c (.clo f_caesuraref15_Right [] [])), [(.t 7)]))⟩,
   ⟨(some 9), .un .not (.t 8), none, none⟩])
  (.cond (.t 9) (.seq (.reg none [
    ⟨(some 4), .mv (.c (.v (.int .i64 (-1)))), none, none⟩])
   .ret) .skip))
  (.seq (.reg none [
   ⟨(some 5), .mv (.c (.v (.int .i64 0))), none, none⟩])
  (.seq (.seq (.reg none [
   ⟨(some 6), .mv (.c (.v (.int .i64 0))), none, none⟩])
  (.block 0 (.loop (.seq (.seq (.reg none [
     ⟨(some 10), .mv (.t 6), none, none⟩,
     ⟨(some 11), .mv (.t 1), none, none⟩,
     ⟨(some 12), .len (.t 11), none, none⟩,
     ⟨(some 13), .bin .lss (.t 10) (.t 12), none, none⟩])
    (.cond (.t 13) .skip (.exit 0)))
    (.seq (.block 1 (.seq (.seq (.reg (some []) [
      ⟨(some 16), .mv (.t 1), none, none⟩,
      ⟨(some 17), .mv (.t 6), none, none⟩,
      ⟨(some 18), .idxA 1 (.t 16) (.t 17), none, none⟩,
      ⟨(some 19), .load none (.t 18), none, none⟩,
      ⟨(some 20), .bin .lss (.t 19) (.c (.v (.int .i64 0))), none, none⟩,
      ⟨(some 21), .mv (.t 20), none, none⟩,
      ⟨(some 22), .mv (.t 1), (some (21, false)), none⟩,
      ⟨(some 23), .mv (.t 6), (some (21, false)), none⟩,
      ⟨(some 24), .idxA 1 (.t 22) (.t 23), (some (21, false)), none⟩,
      ⟨(some 25), .load none (.t 24), (some (21, false)), none⟩,
      ⟨(some 26), .fieldA 0 (.t 2), (some (21, false)), none⟩,
      ⟨(some 27), .load none (.t 26), (some (21, false)), none⟩,
      ⟨(some 28), .bin .geq (.t 25) (.t 27), (some (21, false)), none⟩,
      ⟨(some 29), .pick (.t 21) (.c (.v (.bool true))) (.t 28), none, none⟩])
     (.cond (.t 29) (.seq (.reg none [
       ⟨(some 4), .mv (.c (.v (.int .i64 (-1)))), none, none⟩])
      .ret) .skip))
     (.reg (some []) [
      ⟨(some 30), .fieldA 1 (.t 2), none, none⟩,
      ⟨(some 31), .load none (.t 30), none, none⟩,
      ⟨(some 32), .mv (.t 5), none, none⟩,
      ⟨(some 33), .idxA 1 (.t 31) (.t 32), none, none⟩,
      ⟨(some 34), .load none (.t 33), none, none⟩,
      ⟨(some 35), .mv (.t 1), none, none⟩,
      ⟨(some 36), .mv (.t 6), none, none⟩,
      ⟨(some 37), .idxA 1 (.t 35) (.t 36), none, none⟩,
      ⟨(some 38), .load none (.t 37), none, none⟩,
      ⟨(some 39), .idxA 1 (.t 34) (.t 38), none, none⟩,
      ⟨(some 40), .load none (.t 39), none, none⟩,
      ⟨(some 5), .mv (.t 40), none, none⟩])))
    (.reg none [
     ⟨(some 14), .mv (.t 6), none, none⟩,
     ⟨(some 15), .bin .add (.t 14) (.c (.v (.int .i64 1))), none, none⟩,
     ⟨(some 6), .mv (.t 15), none, none⟩]))))))
  (.seq (.reg none [
   ⟨(some 41), .mv (.t 5), none, none⟩,
   ⟨(some 4), .mv (.t 41), none, none⟩])
  .ret)))))
end Go.Rf


set_option linter.unusedVariables false
set_option linter.unusedSimpArgs false
namespace Go.Rf
def c_caesuraref15_Great : AC :=
  (.seq (.reg none [
   ⟨(some 2), .box 3 (.t 0), none, none⟩,
   ⟨(some 4), .mv (.c (.v (.bool false))), none, none⟩])
  (.seq (.reg none [
   ⟨(some 7), .fieldA 1 (.t 2), none, none⟩,
   ⟨(some 8), .load none (.t 7), none, none⟩,
   ⟨(some 9), .len (.t 8), none, none⟩,
   ⟨(some 10), .fieldA 2 (.t 2), none, none⟩,
   ⟨(some 11), .load none (.t 10), none, none⟩,
   ⟨(some 12), .len (.t 11), none, none⟩,
   ⟨(some 13), .bin .add (.t 9) (.t 12), none, none⟩,
   ⟨(some 5), .mv (.t 13), none, none⟩])
  (.seq (.seq (.reg none [
   ⟨(some 6), .mv (.c (.v (.int .i64 0))), none, none⟩])
  (.block 0 (.loop (.seq (.seq (.reg none [
     ⟨(some 14), .mv (.t 6), none, none⟩,
     ⟨(some 15), .fieldA 1 (.t 2), none, none⟩,
     ⟨(some 16), .load none (.t 15), none, none⟩,
     ⟨(some 17), .len (.t 16), none, none⟩,
     ⟨(some 18), .bin .lss (.t 14) (.t 17), none, none⟩,
     ⟨(some 19), .mv (.t 18), none, none⟩,
     ⟨(some 20), .mv (.t 5), (some (19, true)), none⟩,
     ⟨(some 21), .mv (.t 1), (some (19, true)), none⟩,
     ⟨(some 22), .bin .leq (.t 20) (.t 21), (some (19, true)), none⟩,
     ⟨(some 23), .pick (.t 19) (.t 22) (.c (.v (.bool false))), none, none⟩])
    (.cond (.t 23) .skip (.exit 0)))
    (.seq (.block 1 (.reg none [
      ⟨(some 26), .mv (.t 5), none, none⟩,
      ⟨(some 27), .fieldA 1 (.t 2), none, none⟩,
      ⟨(some 28), .load none (.t 27), none, none⟩,
      ⟨(some 29), .mv (.t 6), none, none⟩,
      ⟨(some 30), .idxA 1 (.t 28) (.t 29), none, none⟩,
      ⟨(some 31), .load none (.t 30), none, none⟩,
      ⟨(some 32), .len (.t 31), none, none⟩,
      ⟨(some 33), .bin .add (.t 26) (.t 32), none, none⟩,
      ⟨(some 5), .mv (.t 33), none, none⟩]))
    (.reg none [
     ⟨(some 24), .mv (.t 6), none, none⟩,
     ⟨(some 25), .bin .add (.t 24) (.c (.v (.int .i64 1))), none, none⟩,
     ⟨(some 6), .mv (.t 25), none, none⟩]))))))
  (.seq (.reg none [
   ⟨(some 34), .mv (.t 5), none, none⟩,
   ⟨(some 35), .mv (.t 1), none, none⟩,
   ⟨(some 36), .bin .gtr (.t 34) (.t 35), none, none⟩,
   ⟨(some 4), .mv (.t 36), none, none⟩])
  .ret))))
def lens (l : List (List Int)) : Int := (l.map fun r => (r.length : Int)).sum
def sumTo (d : Det) (i : Nat) : Int := d.next.length + d.fin.length + lens (d.next.take i)
theorem lens_nonneg : ∀ l, 0 ≤ lens l
  | [] => by simp [lens]
  | r :: l => by have := lens_nonneg l; simp only [lens, List.map_cons, List.sum_cons] at this ⊢; omega
theorem sumTo_succ (d : Det) (i : Nat) (h : i < d.next.length) : sumTo d (i + 1) = sumTo d i + (d.next[i]).length := by
  unfold sumTo lens
  rw [List.take_add_one, List.getElem?_eq_getElem h, List.map_append, List.sum_append]; simp; omega
theorem sumTo_le (d : Det) (i : Nat) : sumTo d i ≤ sumTo d d.next.length := by
  unfold sumTo
  have h : d.next = d.next.take i ++ d.next.drop i := by simp
  have h2 : lens d.next = lens (d.next.take i) + lens (d.next.drop i) := by
    conv => lhs; rw [h]
    simp only [lens, List.map_append, List.sum_append]
  have := lens_nonneg (d.next.drop i)
  simp; omega
def greatD (d : Det) (most : Int) : Bool := decide (most < sumTo d d.next.length)
def greatI (d : Det) (most : Int) (m : Nat) (f : AF) (S : St) : Prop :=
  ∃ i : Nat, i ≤ d.next.length ∧ m = d.next.length - i ∧ f 6 = encI i ∧ f 5 = encI (sumTo d i) ∧ f 1 = encI most ∧ f 2 = .ptr 0 0 0 ∧ S.g 0 = some (.arr 3 [encDet d]) ∧ sumTo d i ≤ 1000000000000000
theorem caesuraref15_Great_body (P : Program) (d : Det) (most : Int) (ok : DetOk d) (hm : most ≤ 3000) :
    AW P c_caesuraref15_Great (RetK [4] (FzK (encB (greatD d most)))) (argF [encDet d, encI most]) S0 := by
  have h1 := ok.next
  have h2 := ok.fin
  unfold Len at h1 h2
  have hz : sumTo d 0 = d.next.length + d.fin.length := by simp [sumTo, lens]
  simp [Z0h, Z0c, Z0d, Z09, Z0a, Z0i, Z0b, Z0f, Z0g, Z2z, Z2y, Z07, Z08, Z06, Z01, Z02, Z00, Z04, Z05, Z03, Z1z, Z1y, Z46, Z48, Z47, Z45, Z1n, Z1o, Z1m, Z3n, Z3k, Z3m, Z3l, Z3o, Z1l, Z29, Z32, Z3x, Z1i, Z1j, Z1k, Z3v, Z3w, Z1g, Z28, Z1h, Z3i, Z3f, Z3h, Z3g, Z3j, Z41, Z40, Z0t, Z0u, Z0v, Z0s, Z1f, Z4c, Z4b, Z4d, Z4a, Z49, ex, Z43, Z42, ev_t, ev_c, Z27, Z26, Z4e, Z4f, Z2m, Z2l, Z2f, Z2j, Z2k, Z2g, Z2h, Z2i, putc, exBslice, lfill, exField, exIdxV, exIdxP, exBox, exAlloc, exLoad, exStore, exFieldA, exIdxA, exLen, exPick, exUn, exBeq, exMM, exSeq, seqGo, exExt, binV, intOp, subc, AV.solid, S0, encI, encB, c_caesuraref15_Great, encDet, encIss, encBs]
  rw [wrap_in _ (by omega)]
  refine AW_loop (greatI d most) d.next.length ?_ ?_
  · refine ⟨0, by omega, by omega, ?_, ?_, ?_, ?_, ?_, by omega⟩ <;> simp [Z43, Z27, Z26, encI, encDet, encIss, encBs, Z4e, hz]
  · rintro m f S ⟨i, hi, rfl, e6, e5, e1, e2, eg, hb⟩
    have hnn : 0 ≤ sumTo d i := by have := lens_nonneg (d.next.take i); unfold sumTo; omega
    have hle2 := sumTo_le d i
    by_cases hlt : i < d.next.length
    · have hr := ok.rows _ (List.getElem_mem hlt)
      unfold Len at hr
      have hs := sumTo_succ d i hlt
      by_cases hle : sumTo d i ≤ most
      · simp [Z0h, Z0c, Z0d, Z09, Z0a, Z0i, Z0b, Z0f, Z0g, Z2z, Z2y, Z07, Z08, Z06, Z01, Z02, Z00, Z04, Z05, Z03, Z1z, Z1y, Z46, Z48, Z47, Z45, Z1n, Z1o, Z1m, Z3n, Z3k, Z3m, Z3l, Z3o, Z1l, Z29, Z32, Z3x, Z1i, Z1j, Z1k, Z3v, Z3w, Z1g, Z28, Z1h, Z3i, Z3f, Z3h, Z3g, Z3j, Z41, Z40, Z0t, Z0u, Z0v, Z0s, Z1f, Z4c, Z4b, Z4d, Z4a, Z49, ex, Z43, Z42, ev_t, ev_c, Z27, Z26, Z4e, Z4f, Z2m, Z2l, Z2f, Z2j, Z2k, Z2g, Z2h, Z2i, putc, exBslice, lfill, exField, exIdxV, exIdxP, exBox, exAlloc, exLoad, exStore, exFieldA, exIdxA, exLen, exPick, exUn, exBeq, exMM, exSeq, seqGo, exExt, binV, intOp, subc, AV.solid, S0, encI, encB, e6, e5, e1, e2, eg, encDet, encIss, encBs, encIs, hlt, hle]
        rw [wrap_in _ (by omega), wrap_in _ (by omega)]
        refine ⟨d.next.length - (i + 1), by omega, i + 1, by omega, rfl, ?_, ?_, ?_, ?_, ?_, by omega⟩ <;> simp [Z43, e6, e5, e1, e2, eg, encI, encDet, encIss, encBs, encIs, hs]
      · have hg : greatD d most = true := by simp [greatD]; omega
        have hgt : most < sumTo d i := by omega
        simp [Z0h, Z0c, Z0d, Z09, Z0a, Z0i, Z0b, Z0f, Z0g, Z2z, Z2y, Z07, Z08, Z06, Z01, Z02, Z00, Z04, Z05, Z03, Z1z, Z1y, Z46, Z48, Z47, Z45, Z1n, Z1o, Z1m, Z3n, Z3k, Z3m, Z3l, Z3o, Z1l, Z29, Z32, Z3x, Z1i, Z1j, Z1k, Z3v, Z3w, Z1g, Z28, Z1h, Z3i, Z3f, Z3h, Z3g, Z3j, Z41, Z40, Z0t, Z0u, Z0v, Z0s, Z1f, Z4c, Z4b, Z4d, Z4a, Z49, ex, Z43, Z42, ev_t, ev_c, Z27, Z26, Z4e, Z4f, Z2m, Z2l, Z2f, Z2j, Z2k, Z2g, Z2h, Z2i, putc, exBslice, lfill, exField, exIdxV, exIdxP, exBox, exAlloc, exLoad, exStore, exFieldA, exIdxA, exLen, exPick, exUn, exBeq, exMM, exSeq, seqGo, exExt, binV, intOp, subc, AV.solid, S0, encI, encB, e6, e5, e1, e2, eg, encDet, encIss, encBs, encIs, hlt, hle, hg, hgt]
        exact FzK_B true _
    · have hin : i = d.next.length := by omega
      have hg : greatD d most = decide (most < sumTo d i) := by rw [greatD, hin]
      simp [Z0h, Z0c, Z0d, Z09, Z0a, Z0i, Z0b, Z0f, Z0g, Z2z, Z2y, Z07, Z08, Z06, Z01, Z02, Z00, Z04, Z05, Z03, Z1z, Z1y, Z46, Z48, Z47, Z45, Z1n, Z1o, Z1m, Z3n, Z3k, Z3m, Z3l, Z3o, Z1l, Z29, Z32, Z3x, Z1i, Z1j, Z1k, Z3v, Z3w, Z1g, Z28, Z1h, Z3i, Z3f, Z3h, Z3g, Z3j, Z41, Z40, Z0t, Z0u, Z0v, Z0s, Z1f, Z4c, Z4b, Z4d, Z4a, Z49, ex, Z43, Z42, ev_t, ev_c, Z27, Z26, Z4e, Z4f, Z2m, Z2l, Z2f, Z2j, Z2k, Z2g, Z2h, Z2i, putc, exBslice, lfill, exField, exIdxV, exIdxP, exBox, exAlloc, exLoad, exStore, exFieldA, exIdxA, exLen, exPick, exUn, exBeq, exMM, exSeq, seqGo, exExt, binV, intOp, subc, AV.solid, S0, encI, encB, e6, e5, e1, e2, eg, encDet, encIss, encBs, encIs, hlt, hg]
      exact FzK_B _ _
end Go.Rf


/- Own work: automata compared. -/
set_option linter.unusedVariables false
set_option linter.unusedSimpArgs false
namespace Go.Rf
open Go.RowKit

def c_caesuraref15_Bools : AC :=
  (.seq (.reg none [
   ⟨(some 4), .mv (.c (.v (.bool false))), none, none⟩])
  (.seq (.seq (.reg none [
   ⟨(some 6), .mv (.t 0), none, none⟩,
   ⟨(some 7), .len (.t 6), none, none⟩,
   ⟨(some 8), .mv (.t 1), none, none⟩,
   ⟨(some 9), .len (.t 8), none, none⟩,
   ⟨(some 10), .bin .neq (.t 7) (.t 9), none, none⟩])
  (.cond (.t 10) (.seq (.reg none [
    ⟨(some 4), .mv (.c (.v (.bool false))), none, none⟩])
   .ret) .skip))
  (.seq (.seq (.reg none [
   ⟨(some 5), .mv (.c (.v (.int .i64 0))), none, none⟩])
  (.block 0 (.loop (.seq (.seq (.reg none [
     ⟨(some 11), .mv (.t 5), none, none⟩,
     ⟨(some 12), .mv (.t 0), none, none⟩,
     ⟨(some 13), .len (.t 12), none, none⟩,
     ⟨(some 14), .bin .lss (.t 11) (.t 13), none, none⟩])
    (.cond (.t 14) .skip (.exit 0)))
    (.seq (.block 1 (.seq (.reg (some []) [
      ⟨(some 17), .mv (.t 0), none, none⟩,
      ⟨(some 18), .mv (.t 5), none, none⟩,
      ⟨(some 19), .idxA 1 (.t 17) (.t 18), none, none⟩,
      ⟨(some 20), .load none (.t 19), none, none⟩,
      ⟨(some 21), .mv (.t 1), none, none⟩,
      ⟨(some 22), .mv (.t 5), none, none⟩,
      ⟨(some 23), .idxA 1 (.t 21) (.t 22), none, none⟩,
      ⟨(some 24), .load none (.t 23), none, none⟩,
      ⟨(some 25), .beq true (.t 20) (.t 24), none, none⟩])
     (.cond (.t 25) (.seq (.reg none [
       ⟨(some 4), .mv (.c (.v (.bool false))), none, none⟩])
      .ret) .skip)))
    (.reg none [
     ⟨(some 15), .mv (.t 5), none, none⟩,
     ⟨(some 16), .bin .add (.t 15) (.c (.v (.int .i64 1))), none, none⟩,
     ⟨(some 5), .mv (.t 16), none, none⟩]))))))
  (.seq (.reg none [
   ⟨(some 4), .mv (.c (.v (.bool true))), none, none⟩])
  .ret))))
def c_slices_Equal_Sbool_bool_ : AC :=
  (.seq (.reg none [
   ⟨(some 4), .mv (.c (.v (.bool false))), none, none⟩])
  (.seq (.seq (.reg none [
   ⟨(some 6), .mv (.t 0), none, none⟩,
   ⟨(some 7), .len (.t 6), none, none⟩,
   ⟨(some 8), .mv (.t 1), none, none⟩,
   ⟨(some 9), .len (.t 8), none, none⟩,
   ⟨(some 10), .bin .neq (.t 7) (.t 9), none, none⟩])
  (.cond (.t 10) (.seq (.reg none [
    ⟨(some 4), .mv (.c (.v (.bool false))), none, none⟩])
   .ret) .skip))
  (.seq (.seq (.reg none [
   ⟨(some 11), .mv (.t 0), none, none⟩,
   ⟨(some 12), .len (.t 11), none, none⟩,
   ⟨(some 13), .mv (.c (.v (.int .i64 0))), none, none⟩])
  (.block 0 (.loop (.seq (.reg none [
     ⟨(some 14), .bin .lss (.t 13) (.t 12), none, none⟩])
    (.seq (.cond (.t 14) .skip (.exit 0))
    (.seq (.block 1 (.seq (.reg none [
      ⟨(some 15), .mv (.t 13), none, none⟩,
      ⟨(some 5), .mv (.t 15), none, none⟩])
     (.seq (.reg (some []) [
      ⟨(some 16), .mv (.t 0), none, none⟩,
      ⟨(some 17), .mv (.t 5), none, none⟩,
      ⟨(some 18), .idxA 1 (.t 16) (.t 17), none, none⟩,
      ⟨(some 19), .load none (.t 18), none, none⟩,
      ⟨(some 20), .mv (.t 1), none, none⟩,
      ⟨(some 21), .mv (.t 5), none, none⟩,
      ⟨(some 22), .idxA 1 (.t 20) (.t 21), none, none⟩,
      ⟨(some 23), .load none (.t 22), none, none⟩,
      ⟨(some 24), .beq true (.t 19) (.t 23), none, none⟩])
     (.cond (.t 24) (.seq (.reg none [
       ⟨(some 4), .mv (.c (.v (.bool false))), none, none⟩])
      .ret) .skip))))
    (.reg none [
     ⟨(some 25), .bin .add (.t 13) (.c (.v (.int .i64 1))), none, none⟩,
     ⟨(some 13), .mv (.t 25), none, none⟩])))))))
  (.seq (.reg none [
   ⟨(some 4), .mv (.c (.v (.bool true))), none, none⟩])
  .ret))))
def c_caesuraref15_Same (f_caesuraref13_Lists f_caesuraref15_Bools : FuncId) : AC :=
  (.seq (.reg none [
   ⟨(some 2), .box 3 (.t 0), none, none⟩,
   ⟨(some 3), .box 3 (.t 1), none, none⟩,
   ⟨(some 4), .mv (.c (.v (.bool false))), none, none⟩])
  (.seq (.reg none [
   ⟨(some 5), .fieldA 0 (.t 2), none, none⟩,
   ⟨(some 6), .load none (.t 5), none, none⟩,
   ⟨(some 7), .fieldA 0 (.t 3), none, none⟩,
   ⟨(some 8), .load none (.t 7), none, none⟩,
   ⟨(some 9), .bin .eql (.t 6) (.t 8), none, none⟩,
   ⟨(some 10), .mv (.t 9), none, none⟩,
   ⟨(some 11), .fieldA 1 (.t 2), (some (10, true)), none⟩,
   ⟨(some 12), .load none (.t 11), (some (10, true)), none⟩,
   ⟨(some 13), .fieldA 1 (.t 3), (some (10, true)), none⟩,
   ⟨(some 14), .load none (.t 13), (some (10, true)), none⟩,
   ⟨(some 15), .mv (.c .junk), (some (10, true)), (some ((.c (.clo f_caesuraref13_Lists [] [])), [(.t 12), (.t 14)]))⟩,
   ⟨(some 16), .pick (.t 10) (.t 15) (.c (.v (.bool false))), none, none⟩,
   ⟨(some 17), .mv (.t 16), none, none⟩,
   ⟨(some 18), .fieldA 2 (.t 2), (some (17, true)), none⟩,
   ⟨(some 19), .load none (.t 18), (some (17, true)), none⟩,
   ⟨(some 20), .fieldA 2 (.t 3), (some (17, true)), none⟩,
   ⟨(some 21), .load none (.t 20), (some (17, true)), none⟩,
   ⟨(some 22), .mv (.c .junk), (some (17, true)), (some ((.c (.clo f_caesuraref15_Bools [] [])), [(.t 19), (.t 21)]))⟩,
   ⟨(some 23), .pick (.t 17) (.t 22) (.c (.v (.bool false))), none, none⟩,
   ⟨(some 4), .mv (.t 23), none, none⟩])
  .ret))
def c_det_Same (f_slices_EqualFunc_SSint_SSint_Sint_Sint_ f_slices_Equal_Sint_int_ f_slices_Equal_Sbool_bool_ : FuncId) : AC :=
  (.seq (.reg none [
   ⟨(some 2), .box 3 (.t 0), none, none⟩,
   ⟨(some 3), .box 3 (.t 1), none, none⟩,
   ⟨(some 4), .mv (.c (.v (.bool false))), none, none⟩])
  (.seq (.reg none [
   ⟨(some 5), .fieldA 0 (.t 2), none, none⟩,
   ⟨(some 6), .load none (.t 5), none, none⟩,
   ⟨(some 7), .fieldA 0 (.t 3), none, none⟩,
   ⟨(some 8), .load none (.t 7), none, none⟩,
   ⟨(some 9), .bin .eql (.t 6) (.t 8), none, none⟩,
   ⟨(some 10), .mv (.t 9), none, none⟩,
   ⟨(some 11), .fieldA 1 (.t 2), (some (10, true)), none⟩,
   ⟨(some 12), .load none (.t 11), (some (10, true)), none⟩,
   ⟨(some 13), .fieldA 1 (.t 3), (some (10, true)), none⟩,
   ⟨(some 14), .load none (.t 13), (some (10, true)), none⟩,
   ⟨(some 15), .mv (.c .junk), (some (10, true)), (some ((.c (.clo f_slices_EqualFunc_SSint_SSint_Sint_Sint_ [] [])), [(.t 12), (.t 14), (.c (.clo f_slices_Equal_Sint_int_ [] []))]))⟩,
   ⟨(some 16), .pick (.t 10) (.t 15) (.c (.v (.bool false))), none, none⟩,
   ⟨(some 17), .mv (.t 16), none, none⟩,
   ⟨(some 18), .fieldA 2 (.t 2), (some (17, true)), none⟩,
   ⟨(some 19), .load none (.t 18), (some (17, true)), none⟩,
   ⟨(some 20), .fieldA 2 (.t 3), (some (17, true)), none⟩,
   ⟨(some 21), .load none (.t 20), (some (17, true)), none⟩,
   ⟨(some 22), .mv (.c .junk), (some (17, true)), (some ((.c (.clo f_slices_Equal_Sbool_bool_ [] [])), [(.t 19), (.t 21)]))⟩,
   ⟨(some 23), .pick (.t 17) (.t 22) (.c (.v (.bool false))), none, none⟩,
   ⟨(some 4), .mv (.t 23), none, none⟩])
  .ret))
theorem CallD.cd {P : Program} {f : FuncId} {args : List AV} {r : AV} {S : St} (h : PureC P f args r) (hc : ∀ x ∈ args, Closed x) (hr : Closed r) : CallD P f args S [] r :=
  ⟨args, h, rfl, fun j h1 _ => .closed _ (hc _ (List.getElem_mem h1)), .inr (.inl ⟨rfl, hr⟩)⟩
def bolsI (a b : List Bool) (i : Nat) (f : AF) (S : St) : Prop := f 5 = encI i ∧ f 0 = encBs a ∧ f 1 = encBs b ∧ a.take i = b.take i
theorem Bools15_body {P : Program} (a b : List Bool) (ha : Len a) (hb : Len b) : AW P c_caesuraref15_Bools (RetK [4] (FzK (encB (a == b)))) (argF [encBs a, encBs b]) S0 := by
  unfold Len at ha hb
  by_cases hl : a.length = b.length
  · simp [Z0h, Z0c, Z0d, Z09, Z0a, Z0i, Z0b, Z0f, Z0g, Z2z, Z2y, Z07, Z08, Z06, Z01, Z02, Z00, Z04, Z05, Z03, Z1z, Z1y, Z46, Z48, Z47, Z45, Z1n, Z1o, Z1m, Z3n, Z3k, Z3m, Z3l, Z3o, Z1l, Z29, Z32, Z3x, Z1i, Z1j, Z1k, Z3v, Z3w, Z1g, Z28, Z1h, Z3i, Z3f, Z3h, Z3g, Z3j, Z41, Z40, Z0t, Z0u, Z0v, Z0s, Z1f, Z4c, Z4b, Z4d, Z4a, Z49, ex, Z43, Z42, ev_t, ev_c, Z27, Z26, Z4e, Z4f, Z2m, Z2l, Z2f, Z2j, Z2k, Z2g, Z2h, Z2i, putc, exBslice, lfill, exField, exIdxV, exIdxP, exBox, exAlloc, exLoad, exStore, exFieldA, exIdxA, exLen, exPick, exUn, exBeq, exMM, exSeq, seqGo, exExt, binV, intOp, subc, AV.solid, S0, encI, encB, c_caesuraref15_Bools, encBs, hl]
    refine AW_for a.length (bolsI a b) ?_ ?_
    · refine ⟨?_, ?_, ?_, ?_⟩ <;> simp [Z43, Z27, Z26, encI, encBs]
    · rintro i f S hi ⟨e5, e0, e1, hp⟩
      by_cases hlt : i < a.length
      · have hlb : i < b.length := by omega
        by_cases he : a[i] = b[i]
        · simp [Z0h, Z0c, Z0d, Z09, Z0a, Z0i, Z0b, Z0f, Z0g, Z2z, Z2y, Z07, Z08, Z06, Z01, Z02, Z00, Z04, Z05, Z03, Z1z, Z1y, Z46, Z48, Z47, Z45, Z1n, Z1o, Z1m, Z3n, Z3k, Z3m, Z3l, Z3o, Z1l, Z29, Z32, Z3x, Z1i, Z1j, Z1k, Z3v, Z3w, Z1g, Z28, Z1h, Z3i, Z3f, Z3h, Z3g, Z3j, Z41, Z40, Z0t, Z0u, Z0v, Z0s, Z1f, Z4c, Z4b, Z4d, Z4a, Z49, ex, Z43, Z42, ev_t, ev_c, Z27, Z26, Z4e, Z4f, Z2m, Z2l, Z2f, Z2j, Z2k, Z2g, Z2h, Z2i, putc, exBslice, lfill, exField, exIdxV, exIdxP, exBox, exAlloc, exLoad, exStore, exFieldA, exIdxA, exLen, exPick, exUn, exBeq, exMM, exSeq, seqGo, exExt, binV, intOp, subc, AV.solid, S0, encI, encB, e5, e0, e1, encBs, hlt, hlb, he]
          rw [wrap_in _ (by omega)]
          refine ⟨hlt, ?_, ?_, ?_, ?_⟩ <;> try simp [Z43, e0, e1, encI, encBs]
          rw [List.take_add_one, List.take_add_one, hp, List.getElem?_eq_getElem hlt, List.getElem?_eq_getElem hlb, he]
        · have hr : (a == b) = false := beq_false_of_ne (by rintro rfl; exact he rfl)
          have hc : (a[i] != b[i]) = true := by simp [he]
          simp [Z0h, Z0c, Z0d, Z09, Z0a, Z0i, Z0b, Z0f, Z0g, Z2z, Z2y, Z07, Z08, Z06, Z01, Z02, Z00, Z04, Z05, Z03, Z1z, Z1y, Z46, Z48, Z47, Z45, Z1n, Z1o, Z1m, Z3n, Z3k, Z3m, Z3l, Z3o, Z1l, Z29, Z32, Z3x, Z1i, Z1j, Z1k, Z3v, Z3w, Z1g, Z28, Z1h, Z3i, Z3f, Z3h, Z3g, Z3j, Z41, Z40, Z0t, Z0u, Z0v, Z0s, Z1f, Z4c, Z4b, Z4d, Z4a, Z49, ex, Z43, Z42, ev_t, ev_c, Z27, Z26, Z4e, Z4f, Z2m, Z2l, Z2f, Z2j, Z2k, Z2g, Z2h, Z2i, putc, exBslice, lfill, exField, exIdxV, exIdxP, exBox, exAlloc, exLoad, exStore, exFieldA, exIdxA, exLen, exPick, exUn, exBeq, exMM, exSeq, seqGo, exExt, binV, intOp, subc, AV.solid, S0, encI, encB, e5, e0, e1, encBs, hlt, hlb, hc, hr]
          exact FzK_B false _
      · have hab : a = b := by
          rw [List.take_of_length_le (by omega), List.take_of_length_le (by omega)] at hp; exact hp
        have hr : (a == b) = true := by simp [hab]
        simp [Z0h, Z0c, Z0d, Z09, Z0a, Z0i, Z0b, Z0f, Z0g, Z2z, Z2y, Z07, Z08, Z06, Z01, Z02, Z00, Z04, Z05, Z03, Z1z, Z1y, Z46, Z48, Z47, Z45, Z1n, Z1o, Z1m, Z3n, Z3k, Z3m, Z3l, Z3o, Z1l, Z29, Z32, Z3x, Z1i, Z1j, Z1k, Z3v, Z3w, Z1g, Z28, Z1h, Z3i, Z3f, Z3h, Z3g, Z3j, Z41, Z40, Z0t, Z0u, Z0v, Z0s, Z1f, Z4c, Z4b, Z4d, Z4a, Z49, ex, Z43, Z42, ev_t, ev_c, Z27, Z26, Z4e, Z4f, Z2m, Z2l, Z2f, Z2j, Z2k, Z2g, Z2h, Z2i, putc, exBslice, lfill, exField, exIdxV, exIdxP, exBox, exAlloc, exLoad, exStore, exFieldA, exIdxA, exLen, exPick, exUn, exBeq, exMM, exSeq, seqGo, exExt, binV, intOp, subc, AV.solid, S0, encI, encB, e5, e0, e1, encBs, hlt, hr]
        exact FzK_B true _
  · have hr : (a == b) = false := beq_false_of_ne (by rintro rfl; exact hl rfl)
    have hc : ((a.length : Int) != b.length) = true := by simp; omega
    simp [Z0h, Z0c, Z0d, Z09, Z0a, Z0i, Z0b, Z0f, Z0g, Z2z, Z2y, Z07, Z08, Z06, Z01, Z02, Z00, Z04, Z05, Z03, Z1z, Z1y, Z46, Z48, Z47, Z45, Z1n, Z1o, Z1m, Z3n, Z3k, Z3m, Z3l, Z3o, Z1l, Z29, Z32, Z3x, Z1i, Z1j, Z1k, Z3v, Z3w, Z1g, Z28, Z1h, Z3i, Z3f, Z3h, Z3g, Z3j, Z41, Z40, Z0t, Z0u, Z0v, Z0s, Z1f, Z4c, Z4b, Z4d, Z4a, Z49, ex, Z43, Z42, ev_t, ev_c, Z27, Z26, Z4e, Z4f, Z2m, Z2l, Z2f, Z2j, Z2k, Z2g, Z2h, Z2i, putc, exBslice, lfill, exField, exIdxV, exIdxP, exBox, exAlloc, exLoad, exStore, exFieldA, exIdxA, exLen, exPick, exUn, exBeq, exMM, exSeq, seqGo, exExt, binV, intOp, subc, AV.solid, S0, encI, encB, c_caesuraref15_Bools, encBs, hc, hr]
    exact FzK_B false _
def eqbI (a b : List Bool) (i : Nat) (f : AF) (S : St) : Prop := f 13 = encI i ∧ f 12 = encI a.length ∧ f 0 = encBs a ∧ f 1 = encBs b ∧ a.take i = b.take i
theorem EqualB_body {P : Program} (a b : List Bool) (ha : Len a) (hb : Len b) : AW P c_slices_Equal_Sbool_bool_ (RetK [4] (FzK (encB (a == b)))) (argF [encBs a, encBs b]) S0 := by
  unfold Len at ha hb
  by_cases hl : a.length = b.length
  · simp [Z0h, Z0c, Z0d, Z09, Z0a, Z0i, Z0b, Z0f, Z0g, Z2z, Z2y, Z07, Z08, Z06, Z01, Z02, Z00, Z04, Z05, Z03, Z1z, Z1y, Z46, Z48, Z47, Z45, Z1n, Z1o, Z1m, Z3n, Z3k, Z3m, Z3l, Z3o, Z1l, Z29, Z32, Z3x, Z1i, Z1j, Z1k, Z3v, Z3w, Z1g, Z28, Z1h, Z3i, Z3f, Z3h, Z3g, Z3j, Z41, Z40, Z0t, Z0u, Z0v, Z0s, Z1f, Z4c, Z4b, Z4d, Z4a, Z49, ex, Z43, Z42, ev_t, ev_c, Z27, Z26, Z4e, Z4f, Z2m, Z2l, Z2f, Z2j, Z2k, Z2g, Z2h, Z2i, putc, exBslice, lfill, exField, exIdxV, exIdxP, exBox, exAlloc, exLoad, exStore, exFieldA, exIdxA, exLen, exPick, exUn, exBeq, exMM, exSeq, seqGo, exExt, binV, intOp, subc, AV.solid, S0, encI, encB, c_slices_Equal_Sbool_bool_, encBs, hl]
    refine AW_for a.length (eqbI a b) ?_ ?_
    · refine ⟨?_, ?_, ?_, ?_, ?_⟩ <;> simp [Z43, Z27, Z26, encI, encBs, hl]
    · rintro i f S hi ⟨e13, e12, e0, e1, hp⟩
      by_cases hlt : i < a.length
      · have hlb : i < b.length := by omega
        by_cases he : a[i] = b[i]
        · simp [Z0h, Z0c, Z0d, Z09, Z0a, Z0i, Z0b, Z0f, Z0g, Z2z, Z2y, Z07, Z08, Z06, Z01, Z02, Z00, Z04, Z05, Z03, Z1z, Z1y, Z46, Z48, Z47, Z45, Z1n, Z1o, Z1m, Z3n, Z3k, Z3m, Z3l, Z3o, Z1l, Z29, Z32, Z3x, Z1i, Z1j, Z1k, Z3v, Z3w, Z1g, Z28, Z1h, Z3i, Z3f, Z3h, Z3g, Z3j, Z41, Z40, Z0t, Z0u, Z0v, Z0s, Z1f, Z4c, Z4b, Z4d, Z4a, Z49, ex, Z43, Z42, ev_t, ev_c, Z27, Z26, Z4e, Z4f, Z2m, Z2l, Z2f, Z2j, Z2k, Z2g, Z2h, Z2i, putc, exBslice, lfill, exField, exIdxV, exIdxP, exBox, exAlloc, exLoad, exStore, exFieldA, exIdxA, exLen, exPick, exUn, exBeq, exMM, exSeq, seqGo, exExt, binV, intOp, subc, AV.solid, S0, encI, encB, e13, e12, e0, e1, encBs, hlt, hlb, he]
          rw [wrap_in _ (by omega)]
          refine ⟨hlt, ?_, ?_, ?_, ?_, ?_⟩ <;> try simp [Z43, e12, e0, e1, encI, encBs]
          rw [List.take_add_one, List.take_add_one, hp, List.getElem?_eq_getElem hlt, List.getElem?_eq_getElem hlb, he]
        · have hr : (a == b) = false := beq_false_of_ne (by rintro rfl; exact he rfl)
          have hc : (a[i] != b[i]) = true := by simp [he]
          simp [Z0h, Z0c, Z0d, Z09, Z0a, Z0i, Z0b, Z0f, Z0g, Z2z, Z2y, Z07, Z08, Z06, Z01, Z02, Z00, Z04, Z05, Z03, Z1z, Z1y, Z46, Z48, Z47, Z45, Z1n, Z1o, Z1m, Z3n, Z3k, Z3m, Z3l, Z3o, Z1l, Z29, Z32, Z3x, Z1i, Z1j, Z1k, Z3v, Z3w, Z1g, Z28, Z1h, Z3i, Z3f, Z3h, Z3g, Z3j, Z41, Z40, Z0t, Z0u, Z0v, Z0s, Z1f, Z4c, Z4b, Z4d, Z4a, Z49, ex, Z43, Z42, ev_t, ev_c, Z27, Z26, Z4e, Z4f, Z2m, Z2l, Z2f, Z2j, Z2k, Z2g, Z2h, Z2i, putc, exBslice, lfill, exField, exIdxV, exIdxP, exBox, exAlloc, exLoad, exStore, exFieldA, exIdxA, exLen, exPick, exUn, exBeq, exMM, exSeq, seqGo, exExt, binV, intOp, subc, AV.solid, S0, encI, encB, e13, e12, e0, e1, encBs, hlt, hlb, hc, hr]
          exact FzK_B false _
      · have hab : a = b := by
          rw [List.take_of_length_le (by omega), List.take_of_length_le (by omega)] at hp; exact hp
        have hr : (a == b) = true := by simp [hab]
        simp [Z0h, Z0c, Z0d, Z09, Z0a, Z0i, Z0b, Z0f, Z0g, Z2z, Z2y, Z07, Z08, Z06, Z01, Z02, Z00, Z04, Z05, Z03, Z1z, Z1y, Z46, Z48, Z47, Z45, Z1n, Z1o, Z1m, Z3n, Z3k, Z3m, Z3l, Z3o, Z1l, Z29, Z32, Z3x, Z1i, Z1j, Z1k, Z3v, Z3w, Z1g, Z28, Z1h, Z3i, Z3f, Z3h, Z3g, Z3j, Z41, Z40, Z0t, Z0u, Z0v, Z0s, Z1f, Z4c, Z4b, Z4d, Z4a, Z49, ex, Z43, Z42, ev_t, ev_c, Z27, Z26, Z4e, Z4f, Z2m, Z2l, Z2f, Z2j, Z2k, Z2g, Z2h, Z2i, putc, exBslice, lfill, exField, exIdxV, exIdxP, exBox, exAlloc, exLoad, exStore, exFieldA, exIdxA, exLen, exPick, exUn, exBeq, exMM, exSeq, seqGo, exExt, binV, intOp, subc, AV.solid, S0, encI, encB, e13, e12, e0, e1, encBs, hlt, hr]
        exact FzK_B true _
  · have hr : (a == b) = false := beq_false_of_ne (by rintro rfl; exact hl rfl)
    have hc : ((a.length : Int) != b.length) = true := by simp; omega
    simp [Z0h, Z0c, Z0d, Z09, Z0a, Z0i, Z0b, Z0f, Z0g, Z2z, Z2y, Z07, Z08, Z06, Z01, Z02, Z00, Z04, Z05, Z03, Z1z, Z1y, Z46, Z48, Z47, Z45, Z1n, Z1o, Z1m, Z3n, Z3k, Z3m, Z3l, Z3o, Z1l, Z29, Z32, Z3x, Z1i, Z1j, Z1k, Z3v, Z3w, Z1g, Z28, Z1h, Z3i, Z3f, Z3h, Z3g, Z3j, Z41, Z40, Z0t, Z0u, Z0v, Z0s, Z1f, Z4c, Z4b, Z4d, Z4a, Z49, ex, Z43, Z42, ev_t, ev_c, Z27, Z26, Z4e, Z4f, Z2m, Z2l, Z2f, Z2j, Z2k, Z2g, Z2h, Z2i, putc, exBslice, lfill, exField, exIdxV, exIdxP, exBox, exAlloc, exLoad, exStore, exFieldA, exIdxA, exLen, exPick, exUn, exBeq, exMM, exSeq, seqGo, exExt, binV, intOp, subc, AV.solid, S0, encI, encB, c_slices_Equal_Sbool_bool_, encBs, hc, hr]
    exact FzK_B false _
def sameD (a b : Det) : Bool := (a.signs == b.signs) && (a.next == b.next) && (a.fin == b.fin)
theorem det_Same_body {P : Program} {fq fe fb : FuncId} (a b : Det) (hq : PureC P fq [encIss a.next, encIss b.next , .clo fe [] []] (encB (a.next == b.next))) (hb : PureC P fb [encBs a.fin, encBs b.fin] (encB (a.fin == b.fin))) :
    AW P (c_det_Same fq fe fb) (RetK [4] (FzK (encB (sameD a b)))) (argF [encDet a, encDet b]) S0 := by
  by_cases h1 : a.signs = b.signs
  · cases h2 : (a.next == b.next) with
    | true =>
      rw [h2] at hq
      have hr : sameD a b = (a.fin == b.fin) := by simp [sameD, h1, h2]
      rw [hr]
      simp [Z0h, Z0c, Z0d, Z09, Z0a, Z0i, Z0b, Z0f, Z0g, Z2z, Z2y, Z07, Z08, Z06, Z01, Z02, Z00, Z04, Z05, Z03, Z1z, Z1y, Z46, Z48, Z47, Z45, Z1n, Z1o, Z1m, Z3n, Z3k, Z3m, Z3l, Z3o, Z1l, Z29, Z32, Z3x, Z1i, Z1j, Z1k, Z3v, Z3w, Z1g, Z28, Z1h, Z3i, Z3f, Z3h, Z3g, Z3j, Z41, Z40, Z0t, Z0u, Z0v, Z0s, Z1f, Z4c, Z4b, Z4d, Z4a, Z49, ex, Z43, Z42, ev_t, ev_c, Z27, Z26, Z4e, Z4f, Z2m, Z2l, Z2f, Z2j, Z2k, Z2g, Z2h, Z2i, putc, exBslice, lfill, exField, exIdxV, exIdxP, exBox, exAlloc, exLoad, exStore, exFieldA, exIdxA, exLen, exPick, exUn, exBeq, exMM, exSeq, seqGo, exExt, binV, intOp, subc, AV.solid, S0, encI, encB, c_det_Same, encDet, h1]
      refine CallR.pure hq (cl_cons (Z2t _) (cl_cons (Z2t _) (cl_cons (.clo _ _ _ cl_nil cl_nil) cl_nil))) (Z2o _) ?_
      simp [Z0h, Z0c, Z0d, Z09, Z0a, Z0i, Z0b, Z0f, Z0g, Z2z, Z2y, Z07, Z08, Z06, Z01, Z02, Z00, Z04, Z05, Z03, Z1z, Z1y, Z46, Z48, Z47, Z45, Z1n, Z1o, Z1m, Z3n, Z3k, Z3m, Z3l, Z3o, Z1l, Z29, Z32, Z3x, Z1i, Z1j, Z1k, Z3v, Z3w, Z1g, Z28, Z1h, Z3i, Z3f, Z3h, Z3g, Z3j, Z41, Z40, Z0t, Z0u, Z0v, Z0s, Z1f, Z4c, Z4b, Z4d, Z4a, Z49, ex, Z43, Z42, ev_t, ev_c, Z27, Z26, Z4e, Z4f, Z2m, Z2l, Z2f, Z2j, Z2k, Z2g, Z2h, Z2i, putc, exBslice, lfill, exField, exIdxV, exIdxP, exBox, exAlloc, exLoad, exStore, exFieldA, exIdxA, exLen, exPick, exUn, exBeq, exMM, exSeq, seqGo, exExt, binV, intOp, subc, AV.solid, S0, encI, encB, encDet, h1]
      refine CallR.pure hb (cl_cons (Z2p _) (cl_cons (Z2p _) cl_nil)) (Z2o _) ?_
      simp [Z0h, Z0c, Z0d, Z09, Z0a, Z0i, Z0b, Z0f, Z0g, Z2z, Z2y, Z07, Z08, Z06, Z01, Z02, Z00, Z04, Z05, Z03, Z1z, Z1y, Z46, Z48, Z47, Z45, Z1n, Z1o, Z1m, Z3n, Z3k, Z3m, Z3l, Z3o, Z1l, Z29, Z32, Z3x, Z1i, Z1j, Z1k, Z3v, Z3w, Z1g, Z28, Z1h, Z3i, Z3f, Z3h, Z3g, Z3j, Z41, Z40, Z0t, Z0u, Z0v, Z0s, Z1f, Z4c, Z4b, Z4d, Z4a, Z49, ex, Z43, Z42, ev_t, ev_c, Z27, Z26, Z4e, Z4f, Z2m, Z2l, Z2f, Z2j, Z2k, Z2g, Z2h, Z2i, putc, exBslice, lfill, exField, exIdxV, exIdxP, exBox, exAlloc, exLoad, exStore, exFieldA, exIdxA, exLen, exPick, exUn, exBeq, exMM, exSeq, seqGo, exExt, binV, intOp, subc, AV.solid, S0, encI, encB, encDet, h1]
      exact FzK_B _ _
    | false =>
      rw [h2] at hq
      have hr : sameD a b = false := by simp [sameD, h1, h2]
      rw [hr]
      simp [Z0h, Z0c, Z0d, Z09, Z0a, Z0i, Z0b, Z0f, Z0g, Z2z, Z2y, Z07, Z08, Z06, Z01, Z02, Z00, Z04, Z05, Z03, Z1z, Z1y, Z46, Z48, Z47, Z45, Z1n, Z1o, Z1m, Z3n, Z3k, Z3m, Z3l, Z3o, Z1l, Z29, Z32, Z3x, Z1i, Z1j, Z1k, Z3v, Z3w, Z1g, Z28, Z1h, Z3i, Z3f, Z3h, Z3g, Z3j, Z41, Z40, Z0t, Z0u, Z0v, Z0s, Z1f, Z4c, Z4b, Z4d, Z4a, Z49, ex, Z43, Z42, ev_t, ev_c, Z27, Z26, Z4e, Z4f, Z2m, Z2l, Z2f, Z2j, Z2k, Z2g, Z2h, Z2i, putc, exBslice, lfill, exField, exIdxV, exIdxP, exBox, exAlloc, exLoad, exStore, exFieldA, exIdxA, exLen, exPick, exUn, exBeq, exMM, exSeq, seqGo, exExt, binV, intOp, subc, AV.solid, S0, encI, encB, c_det_Same, encDet, h1]
      refine CallR.pure hq (cl_cons (Z2t _) (cl_cons (Z2t _) (cl_cons (.clo _ _ _ cl_nil cl_nil) cl_nil))) (Z2o _) ?_
      simp [Z0h, Z0c, Z0d, Z09, Z0a, Z0i, Z0b, Z0f, Z0g, Z2z, Z2y, Z07, Z08, Z06, Z01, Z02, Z00, Z04, Z05, Z03, Z1z, Z1y, Z46, Z48, Z47, Z45, Z1n, Z1o, Z1m, Z3n, Z3k, Z3m, Z3l, Z3o, Z1l, Z29, Z32, Z3x, Z1i, Z1j, Z1k, Z3v, Z3w, Z1g, Z28, Z1h, Z3i, Z3f, Z3h, Z3g, Z3j, Z41, Z40, Z0t, Z0u, Z0v, Z0s, Z1f, Z4c, Z4b, Z4d, Z4a, Z49, ex, Z43, Z42, ev_t, ev_c, Z27, Z26, Z4e, Z4f, Z2m, Z2l, Z2f, Z2j, Z2k, Z2g, Z2h, Z2i, putc, exBslice, lfill, exField, exIdxV, exIdxP, exBox, exAlloc, exLoad, exStore, exFieldA, exIdxA, exLen, exPick, exUn, exBeq, exMM, exSeq, seqGo, exExt, binV, intOp, subc, AV.solid, S0, encI, encB, encDet, h1]
      exact FzK_B _ _
  · have hr : sameD a b = false := by simp [sameD, h1]
    rw [hr]
    have h1' : (a.signs == b.signs) = false := by simp [h1]
    simp [Z0h, Z0c, Z0d, Z09, Z0a, Z0i, Z0b, Z0f, Z0g, Z2z, Z2y, Z07, Z08, Z06, Z01, Z02, Z00, Z04, Z05, Z03, Z1z, Z1y, Z46, Z48, Z47, Z45, Z1n, Z1o, Z1m, Z3n, Z3k, Z3m, Z3l, Z3o, Z1l, Z29, Z32, Z3x, Z1i, Z1j, Z1k, Z3v, Z3w, Z1g, Z28, Z1h, Z3i, Z3f, Z3h, Z3g, Z3j, Z41, Z40, Z0t, Z0u, Z0v, Z0s, Z1f, Z4c, Z4b, Z4d, Z4a, Z49, ex, Z43, Z42, ev_t, ev_c, Z27, Z26, Z4e, Z4f, Z2m, Z2l, Z2f, Z2j, Z2k, Z2g, Z2h, Z2i, putc, exBslice, lfill, exField, exIdxV, exIdxP, exBox, exAlloc, exLoad, exStore, exFieldA, exIdxA, exLen, exPick, exUn, exBeq, exMM, exSeq, seqGo, exExt, binV, intOp, subc, AV.solid, S0, encI, encB, c_det_Same, encDet, h1']
    exact FzK_B _ _
theorem Same15_body {P : Program} {fq fe fb : FuncId} (a b : Det) (hq : PureC P fq [encIss a.next, encIss b.next ] (encB (a.next == b.next))) (hb : PureC P fb [encBs a.fin, encBs b.fin] (encB (a.fin == b.fin))) :
    AW P (c_caesuraref15_Same fq fb) (RetK [4] (FzK (encB (sameD a b)))) (argF [encDet a, encDet b]) S0 := by
  by_cases h1 : a.signs = b.signs
  · cases h2 : (a.next == b.next) with
    | true =>
      rw [h2] at hq
      have hr : sameD a b = (a.fin == b.fin) := by simp [sameD, h1, h2]
      rw [hr]
      simp [Z0h, Z0c, Z0d, Z09, Z0a, Z0i, Z0b, Z0f, Z0g, Z2z, Z2y, Z07, Z08, Z06, Z01, Z02, Z00, Z04, Z05, Z03, Z1z, Z1y, Z46, Z48, Z47, Z45, Z1n, Z1o, Z1m, Z3n, Z3k, Z3m, Z3l, Z3o, Z1l, Z29, Z32, Z3x, Z1i, Z1j, Z1k, Z3v, Z3w, Z1g, Z28, Z1h, Z3i, Z3f, Z3h, Z3g, Z3j, Z41, Z40, Z0t, Z0u, Z0v, Z0s, Z1f, Z4c, Z4b, Z4d, Z4a, Z49, ex, Z43, Z42, ev_t, ev_c, Z27, Z26, Z4e, Z4f, Z2m, Z2l, Z2f, Z2j, Z2k, Z2g, Z2h, Z2i, putc, exBslice, lfill, exField, exIdxV, exIdxP, exBox, exAlloc, exLoad, exStore, exFieldA, exIdxA, exLen, exPick, exUn, exBeq, exMM, exSeq, seqGo, exExt, binV, intOp, subc, AV.solid, S0, encI, encB, c_caesuraref15_Same, encDet, h1]
      refine CallR.pure hq (cl_cons (Z2t _) (cl_cons (Z2t _) (cl_nil))) (Z2o _) ?_
      simp [Z0h, Z0c, Z0d, Z09, Z0a, Z0i, Z0b, Z0f, Z0g, Z2z, Z2y, Z07, Z08, Z06, Z01, Z02, Z00, Z04, Z05, Z03, Z1z, Z1y, Z46, Z48, Z47, Z45, Z1n, Z1o, Z1m, Z3n, Z3k, Z3m, Z3l, Z3o, Z1l, Z29, Z32, Z3x, Z1i, Z1j, Z1k, Z3v, Z3w, Z1g, Z28, Z1h, Z3i, Z3f, Z3h, Z3g, Z3j, Z41, Z40, Z0t, Z0u, Z0v, Z0s, Z1f, Z4c, Z4b, Z4d, Z4a, Z49, ex, Z43, Z42, ev_t, ev_c, Z27, Z26, Z4e, Z4f, Z2m, Z2l, Z2f, Z2j, Z2k, Z2g, Z2h, Z2i, putc, exBslice, lfill, exField, exIdxV, exIdxP, exBox, exAlloc, exLoad, exStore, exFieldA, exIdxA, exLen, exPick, exUn, exBeq, exMM, exSeq, seqGo, exExt, binV, intOp, subc, AV.solid, S0, encI, encB, encDet, h1]
      refine CallR.pure hb (cl_cons (Z2p _) (cl_cons (Z2p _) cl_nil)) (Z2o _) ?_
      simp [Z0h, Z0c, Z0d, Z09, Z0a, Z0i, Z0b, Z0f, Z0g, Z2z, Z2y, Z07, Z08, Z06, Z01, Z02, Z00, Z04, Z05, Z03, Z1z, Z1y, Z46, Z48, Z47, Z45, Z1n, Z1o, Z1m, Z3n, Z3k, Z3m, Z3l, Z3o, Z1l, Z29, Z32, Z3x, Z1i, Z1j, Z1k, Z3v, Z3w, Z1g, Z28, Z1h, Z3i, Z3f, Z3h, Z3g, Z3j, Z41, Z40, Z0t, Z0u, Z0v, Z0s, Z1f, Z4c, Z4b, Z4d, Z4a, Z49, ex, Z43, Z42, ev_t, ev_c, Z27, Z26, Z4e, Z4f, Z2m, Z2l, Z2f, Z2j, Z2k, Z2g, Z2h, Z2i, putc, exBslice, lfill, exField, exIdxV, exIdxP, exBox, exAlloc, exLoad, exStore, exFieldA, exIdxA, exLen, exPick, exUn, exBeq, exMM, exSeq, seqGo, exExt, binV, intOp, subc, AV.solid, S0, encI, encB, encDet, h1]
      exact FzK_B _ _
    | false =>
      rw [h2] at hq
      have hr : sameD a b = false := by simp [sameD, h1, h2]
      rw [hr]
      simp [Z0h, Z0c, Z0d, Z09, Z0a, Z0i, Z0b, Z0f, Z0g, Z2z, Z2y, Z07, Z08, Z06, Z01, Z02, Z00, Z04, Z05, Z03, Z1z, Z1y, Z46, Z48, Z47, Z45, Z1n, Z1o, Z1m, Z3n, Z3k, Z3m, Z3l, Z3o, Z1l, Z29, Z32, Z3x, Z1i, Z1j, Z1k, Z3v, Z3w, Z1g, Z28, Z1h, Z3i, Z3f, Z3h, Z3g, Z3j, Z41, Z40, Z0t, Z0u, Z0v, Z0s, Z1f, Z4c, Z4b, Z4d, Z4a, Z49, ex, Z43, Z42, ev_t, ev_c, Z27, Z26, Z4e, Z4f, Z2m, Z2l, Z2f, Z2j, Z2k, Z2g, Z2h, Z2i, putc, exBslice, lfill, exField, exIdxV, exIdxP, exBox, exAlloc, exLoad, exStore, exFieldA, exIdxA, exLen, exPick, exUn, exBeq, exMM, exSeq, seqGo, exExt, binV, intOp, subc, AV.solid, S0, encI, encB, c_caesuraref15_Same, encDet, h1]
      refine CallR.pure hq (cl_cons (Z2t _) (cl_cons (Z2t _) (cl_nil))) (Z2o _) ?_
      simp [Z0h, Z0c, Z0d, Z09, Z0a, Z0i, Z0b, Z0f, Z0g, Z2z, Z2y, Z07, Z08, Z06, Z01, Z02, Z00, Z04, Z05, Z03, Z1z, Z1y, Z46, Z48, Z47, Z45, Z1n, Z1o, Z1m, Z3n, Z3k, Z3m, Z3l, Z3o, Z1l, Z29, Z32, Z3x, Z1i, Z1j, Z1k, Z3v, Z3w, Z1g, Z28, Z1h, Z3i, Z3f, Z3h, Z3g, Z3j, Z41, Z40, Z0t, Z0u, Z0v, Z0s, Z1f, Z4c, Z4b, Z4d, Z4a, Z49, ex, Z43, Z42, ev_t, ev_c, Z27, Z26, Z4e, Z4f, Z2m, Z2l, Z2f, Z2j, Z2k, Z2g, Z2h, Z2i, putc, exBslice, lfill, exField, exIdxV, exIdxP, exBox, exAlloc, exLoad, exStore, exFieldA, exIdxA, exLen, exPick, exUn, exBeq, exMM, exSeq, seqGo, exExt, binV, intOp, subc, AV.solid, S0, encI, encB, encDet, h1]
      exact FzK_B _ _
  · have hr : sameD a b = false := by simp [sameD, h1]
    rw [hr]
    have h1' : (a.signs == b.signs) = false := by simp [h1]
    simp [Z0h, Z0c, Z0d, Z09, Z0a, Z0i, Z0b, Z0f, Z0g, Z2z, Z2y, Z07, Z08, Z06, Z01, Z02, Z00, Z04, Z05, Z03, Z1z, Z1y, Z46, Z48, Z47, Z45, Z1n, Z1o, Z1m, Z3n, Z3k, Z3m, Z3l, Z3o, Z1l, Z29, Z32, Z3x, Z1i, Z1j, Z1k, Z3v, Z3w, Z1g, Z28, Z1h, Z3i, Z3f, Z3h, Z3g, Z3j, Z41, Z40, Z0t, Z0u, Z0v, Z0s, Z1f, Z4c, Z4b, Z4d, Z4a, Z49, ex, Z43, Z42, ev_t, ev_c, Z27, Z26, Z4e, Z4f, Z2m, Z2l, Z2f, Z2j, Z2k, Z2g, Z2h, Z2i, putc, exBslice, lfill, exField, exIdxV, exIdxP, exBox, exAlloc, exLoad, exStore, exFieldA, exIdxA, exLen, exPick, exUn, exBeq, exMM, exSeq, seqGo, exExt, binV, intOp, subc, AV.solid, S0, encI, encB, c_caesuraref15_Same, encDet, h1']
    exact FzK_B _ _
end Go.Rf

