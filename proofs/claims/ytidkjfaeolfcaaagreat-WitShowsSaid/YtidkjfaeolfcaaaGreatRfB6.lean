import Derived.Test.YtidkjfaeolfcaaaGreatRfCell
set_option linter.unusedVariables false
set_option linter.unusedSimpArgs false
namespace Go.Rf
def c_caesuraref15_Great : AC :=
  (.seq (.reg none [
   ⟨(some 2), .box 3 (.t 0), none, none⟩,
   ⟨(some 4), .mv (.c (.v (.bool false))), none, none⟩])
  (.seq (.reg none [
   ⟨(some 7), .fieldA 1 (.t 2), none, none⟩,
   ⟨(some 8), .load none (.t 7), none, none⟩,
   ⟨(some 9), .len (.t 8), none, none⟩,
   ⟨(some 10), .fieldA 2 (.t 2), none, none⟩,
   ⟨(some 11), .load none (.t 10), none, none⟩,
   ⟨(some 12), .len (.t 11), none, none⟩,
   ⟨(some 13), .bin .add (.t 9) (.t 12), none, none⟩,
   ⟨(some 5), .mv (.t 13), none, none⟩])
  (.seq (.seq (.reg none [
   ⟨(some 6), .mv (.c (.v (.int .i64 0))), none, none⟩])
  (.block 0 (.loop (.seq (.seq (.reg none [
     ⟨(some 14), .mv (.t 6), none, none⟩,
     ⟨(some 15), .fieldA 1 (.t 2), none, none⟩,
     ⟨(some 16), .load none (.t 15), none, none⟩,
     ⟨(some 17), .len (.t 16), none, none⟩,
     ⟨(some 18), .bin .lss (.t 14) (.t 17), none, none⟩,
     ⟨(some 19), .mv (.t 18), none, none⟩,
     ⟨(some 20), .mv (.t 5), (some (19, true)), none⟩,
     ⟨(some 21), .mv (.t 1), (some (19, true)), none⟩,
     ⟨(some 22), .bin .leq (.t 20) (.t 21), (some (19, true)), none⟩,
     ⟨(some 23), .pick (.t 19) (.t 22) (.c (.v (.bool false))), none, none⟩])
    (.cond (.t 23) .skip (.exit 0)))
    (.seq (.block 1 (.reg none [
      ⟨(some 26), .mv (.t 5), none, none⟩,
      ⟨(some 27), .fieldA 1 (.t 2), none, none⟩,
      ⟨(some 28), .load none (.t 27), none, none⟩,
      ⟨(some 29), .mv (.t 6), none, none⟩,
      ⟨(some 30), .idxA 1 (.t 28) (.t 29), none, none⟩,
      ⟨(some 31), .load none (.t 30), none, none⟩,
      ⟨(some 32), .len (.t 31), none, none⟩,
      ⟨(some 33), .bin .add (.t 26) (.t 32), none, none⟩,
      ⟨(some 5), .mv (.t 33), none, none⟩]))
    (.reg none [
     ⟨(some 24), .mv (.t 6), none, none⟩,
     ⟨(some 25), .bin .add (.t 24) (.c (.v (.int .i64 1))), none, none⟩,
     ⟨(some 6), .mv (.t 25), none, none⟩]))))))
  (.seq (.reg none [
   ⟨(some 34), .mv (.t 5), none, none⟩,
   ⟨(some 35), .mv (.t 1), none, none⟩,
   ⟨(some 36), .bin .gtr (.t 34) (.t 35), none, none⟩,
   ⟨(some 4), .mv (.t 36), none, none⟩])
  .ret))))
def lens (l : List (List Int)) : Int := (l.map fun r => (r.length : Int)).sum
def sumTo (d : Det) (i : Nat) : Int := d.next.length + d.fin.length + lens (d.next.take i)
theorem lens_nonneg : ∀ l, 0 ≤ lens l
  | [] => by simp [lens]
  | r :: l => by have := lens_nonneg l; simp only [lens, List.map_cons, List.sum_cons] at this ⊢; omega
theorem sumTo_succ (d : Det) (i : Nat) (h : i < d.next.length) : sumTo d (i + 1) = sumTo d i + (d.next[i]).length := by
  unfold sumTo lens
  rw [List.take_add_one, List.getElem?_eq_getElem h, List.map_append, List.sum_append]; simp; omega
theorem sumTo_le (d : Det) (i : Nat) : sumTo d i ≤ sumTo d d.next.length := by
  unfold sumTo
  have h : d.next = d.next.take i ++ d.next.drop i := by simp
  have h2 : lens d.next = lens (d.next.take i) + lens (d.next.drop i) := by
    conv => lhs; rw [h]
    simp only [lens, List.map_append, List.sum_append]
  have := lens_nonneg (d.next.drop i)
  simp; omega
def greatD (d : Det) (most : Int) : Bool := decide (most < sumTo d d.next.length)
def greatI (d : Det) (most : Int) (m : Nat) (f : AF) (S : St) : Prop :=
  ∃ i : Nat, i ≤ d.next.length ∧ m = d.next.length - i ∧ f 6 = encI i ∧ f 5 = encI (sumTo d i) ∧ f 1 = encI most ∧ f 2 = .ptr 0 0 0 ∧ S.g 0 = some (.arr 3 [encDet d]) ∧ sumTo d i ≤ 1000000000000000
theorem caesuraref15_Great_body (P : Program) (d : Det) (most : Int) (ok : DetOk d) (hm : most ≤ 3000) :
    AW P c_caesuraref15_Great (RetK [4] (FzK (encB (greatD d most)))) (argF [encDet d, encI most]) S0 := by
  have h1 := ok.next
  have h2 := ok.fin
  unfold Len at h1 h2
  have hz : sumTo d 0 = d.next.length + d.fin.length := by simp [sumTo, lens]
  simp [Z0h, Z0c, Z0d, Z09, Z0a, Z0i, Z0b, Z0f, Z0g, Z2z, Z2y, Z07, Z08, Z06, Z01, Z02, Z00, Z04, Z05, Z03, Z1z, Z1y, Z46, Z48, Z47, Z45, Z1n, Z1o, Z1m, Z3n, Z3k, Z3m, Z3l, Z3o, Z1l, Z29, Z32, Z3x, Z1i, Z1j, Z1k, Z3v, Z3w, Z1g, Z28, Z1h, Z3i, Z3f, Z3h, Z3g, Z3j, Z41, Z40, Z0t, Z0u, Z0v, Z0s, Z1f, Z4c, Z4b, Z4d, Z4a, Z49, ex, Z43, Z42, ev_t, ev_c, Z27, Z26, Z4e, Z4f, Z2m, Z2l, Z2f, Z2j, Z2k, Z2g, Z2h, Z2i, putc, exBslice, lfill, exField, exIdxV, exIdxP, exBox, exAlloc, exLoad, exStore, exFieldA, exIdxA, exLen, exPick, exUn, exBeq, exMM, exSeq, seqGo, exExt, binV, intOp, subc, AV.solid, S0, encI, encB, c_caesuraref15_Great, encDet, encIss, encBs]
  rw [wrap_in _ (by omega)]
  refine AW_loop (greatI d most) d.next.length ?_ ?_
  · refine ⟨0, by omega, by omega, ?_, ?_, ?_, ?_, ?_, by omega⟩ <;> simp [Z43, Z27, Z26, encI, encDet, encIss, encBs, Z4e, hz]
  · rintro m f S ⟨i, hi, rfl, e6, e5, e1, e2, eg, hb⟩
    have hnn : 0 ≤ sumTo d i := by have := lens_nonneg (d.next.take i); unfold sumTo; omega
    have hle2 := sumTo_le d i
    by_cases hlt : i < d.next.length
    · have hr := ok.rows _ (List.getElem_mem hlt)
      unfold Len at hr
      have hs := sumTo_succ d i hlt
      by_cases hle : sumTo d i ≤ most
      · simp [Z0h, Z0c, Z0d, Z09, Z0a, Z0i, Z0b, Z0f, Z0g, Z2z, Z2y, Z07, Z08, Z06, Z01, Z02, Z00, Z04, Z05, Z03, Z1z, Z1y, Z46, Z48, Z47, Z45, Z1n, Z1o, Z1m, Z3n, Z3k, Z3m, Z3l, Z3o, Z1l, Z29, Z32, Z3x, Z1i, Z1j, Z1k, Z3v, Z3w, Z1g, Z28, Z1h, Z3i, Z3f, Z3h, Z3g, Z3j, Z41, Z40, Z0t, Z0u, Z0v, Z0s, Z1f, Z4c, Z4b, Z4d, Z4a, Z49, ex, Z43, Z42, ev_t, ev_c, Z27, Z26, Z4e, Z4f, Z2m, Z2l, Z2f, Z2j, Z2k, Z2g, Z2h, Z2i, putc, exBslice, lfill, exField, exIdxV, exIdxP, exBox, exAlloc, exLoad, exStore, exFieldA, exIdxA, exLen, exPick, exUn, exBeq, exMM, exSeq, seqGo, exExt, binV, intOp, subc, AV.solid, S0, encI, encB, e6, e5, e1, e2, eg, encDet, encIss, encBs, encIs, hlt, hle]
        rw [wrap_in _ (by omega), wrap_in _ (by omega)]
        refine ⟨d.next.length - (i + 1), by omega, i + 1, by omega, rfl, ?_, ?_, ?_, ?_, ?_, by omega⟩ <;> simp [Z43, e6, e5, e1, e2, eg, encI, encDet, encIss, encBs, encIs, hs]
      · have hg : greatD d most = true := by simp [greatD]; omega
        have hgt : most < sumTo d i := by omega
        simp [Z0h, Z0c, Z0d, Z09, Z0a, Z0i, Z0b, Z0f, Z0g, Z2z, Z2y, Z07, Z08, Z06, Z01, Z02, Z00, Z04, Z05, Z03, Z1z, Z1y, Z46, Z48, Z47, Z45, Z1n, Z1o, Z1m, Z3n, Z3k, Z3m, Z3l, Z3o, Z1l, Z29, Z32, Z3x, Z1i, Z1j, Z1k, Z3v, Z3w, Z1g, Z28, Z1h, Z3i, Z3f, Z3h, Z3g, Z3j, Z41, Z40, Z0t, Z0u, Z0v, Z0s, Z1f, Z4c, Z4b, Z4d, Z4a, Z49, ex, Z43, Z42, ev_t, ev_c, Z27, Z26, Z4e, Z4f, Z2m, Z2l, Z2f, Z2j, Z2k, Z2g, Z2h, Z2i, putc, exBslice, lfill, exField, exIdxV, exIdxP, exBox, exAlloc, exLoad, exStore, exFieldA, exIdxA, exLen, exPick, exUn, exBeq, exMM, exSeq, seqGo, exExt, binV, intOp, subc, AV.solid, S0, encI, encB, e6, e5, e1, e2, eg, encDet, encIss, encBs, encIs, hlt, hle, hg, hgt]
        exact FzK_B true _
    · have hin : i = d.next.length := by omega
      have hg : greatD d most = decide (most < sumTo d i) := by rw [greatD, hin]
      simp [Z0h, Z0c, Z0d, Z09, Z0a, Z0i, Z0b, Z0f, Z0g, Z2z, Z2y, Z07, Z08, Z06, Z01, Z02, Z00, Z04, Z05, Z03, Z1z, Z1y, Z46, Z48, Z47, Z45, Z1n, Z1o, Z1m, Z3n, Z3k, Z3m, Z3l, Z3o, Z1l, Z29, Z32, Z3x, Z1i, Z1j, Z1k, Z3v, Z3w, Z1g, Z28, Z1h, Z3i, Z3f, Z3h, Z3g, Z3j, Z41, Z40, Z0t, Z0u, Z0v, Z0s, Z1f, Z4c, Z4b, Z4d, Z4a, Z49, ex, Z43, Z42, ev_t, ev_c, Z27, Z26, Z4e, Z4f, Z2m, Z2l, Z2f, Z2j, Z2k, Z2g, Z2h, Z2i, putc, exBslice, lfill, exField, exIdxV, exIdxP, exBox, exAlloc, exLoad, exStore, exFieldA, exIdxA, exLen, exPick, exUn, exBeq, exMM, exSeq, seqGo, exExt, binV, intOp, subc, AV.solid, S0, encI, encB, e6, e5, e1, e2, eg, encDet, encIss, encBs, encIs, hlt, hg]
      exact FzK_B _ _
end Go.Rf

