import Derived.Test.YtajombmjidnbcaaDoorRfSort
import Derived.Test.YtajombmjidnbcaaDoorRfB3
/- Own work: automata that may choose: what looks at them. -/
set_option linter.unusedVariables false
set_option linter.unusedSimpArgs false
namespace Go.Rf
open Go.RowKit

/-- A loop, its rounds counted. -/
def FNext (n : Nat) (I : Nat → AF → St → Prop) (k : Nat) : AF → St → Prop := fun f S => k < n ∧ I (k + 1) f S
theorem AW_for {P : Program} {x : AC} {Q : Exit → AF → St → Prop} {f : AF} {S : St} (n : Nat) (I : Nat → AF → St → Prop) (h0 : I 0 f S) (h : ∀ k f S, k ≤ n → I k f S → AW P x (AThen (FNext n I k) Q) f S) : AW P (.loop x) Q f S := by
  refine AW_loop (fun m f S => ∃ k, k ≤ n ∧ m = n - k ∧ I k f S) n ⟨0, by omega, by omega, h0⟩ ?_
  rintro m f S ⟨k, hk, rfl, hi⟩
  refine AW_mono _ (fun e a S' hq => ?_) (h k f S hk hi)
  cases e <;> simp only [AThen] at hq ⊢ <;> first | exact hq | skip
  obtain ⟨h1, h2⟩ := hq
  exact ⟨n - (k + 1), by omega, k + 1, by omega, rfl, h2⟩
def c_slices_Equal_Sint_int_ : AC :=
  (.seq (.reg none [
   ⟨(some 4), .mv (.c (.v (.bool false))), none, none⟩])
  (.seq (.seq (.reg none [
   ⟨(some 6), .mv (.t 0), none, none⟩,
   ⟨(some 7), .len (.t 6), none, none⟩,
   ⟨(some 8), .mv (.t 1), none, none⟩,
   ⟨(some 9), .len (.t 8), none, none⟩,
   ⟨(some 10), .bin .neq (.t 7) (.t 9), none, none⟩])
  (.cond (.t 10) (.seq (.reg none [
    ⟨(some 4), .mv (.c (.v (.bool false))), none, none⟩])
   .ret) .skip))
  (.seq (.seq (.reg none [
   ⟨(some 11), .mv (.t 0), none, none⟩,
   ⟨(some 12), .len (.t 11), none, none⟩,
   ⟨(some 13), .mv (.c (.v (.int .i64 0))), none, none⟩])
  (.block 0 (.loop (.seq (.reg none [
     ⟨(some 14), .bin .lss (.t 13) (.t 12), none, none⟩])
    (.seq (.cond (.t 14) .skip (.exit 0))
    (.seq (.block 1 (.seq (.reg none [
      ⟨(some 15), .mv (.t 13), none, none⟩,
      ⟨(some 5), .mv (.t 15), none, none⟩])
     (.seq (.reg (some []) [
      ⟨(some 16), .mv (.t 0), none, none⟩,
      ⟨(some 17), .mv (.t 5), none, none⟩,
      ⟨(some 18), .idxA 1 (.t 16) (.t 17), none, none⟩,
      ⟨(some 19), .load none (.t 18), none, none⟩,
      ⟨(some 20), .mv (.t 1), none, none⟩,
      ⟨(some 21), .mv (.t 5), none, none⟩,
      ⟨(some 22), .idxA 1 (.t 20) (.t 21), none, none⟩,
      ⟨(some 23), .load none (.t 22), none, none⟩,
      ⟨(some 24), .bin .neq (.t 19) (.t 23), none, none⟩])
     (.cond (.t 24) (.seq (.reg none [
       ⟨(some 4), .mv (.c (.v (.bool false))), none, none⟩])
      .ret) .skip))))
    (.reg none [
     ⟨(some 25), .bin .add (.t 13) (.c (.v (.int .i64 1))), none, none⟩,
     ⟨(some 13), .mv (.t 25), none, none⟩])))))))
  (.seq (.reg none [
   ⟨(some 4), .mv (.c (.v (.bool true))), none, none⟩])
  .ret))))
def c_slices_EqualFunc_SSint_SSint_Sint_Sint_ : AC :=
  (.seq (.reg none [
   ⟨(some 6), .mv (.c (.v (.bool false))), none, none⟩])
  (.seq (.seq (.reg none [
   ⟨(some 10), .mv (.t 0), none, none⟩,
   ⟨(some 11), .len (.t 10), none, none⟩,
   ⟨(some 12), .mv (.t 1), none, none⟩,
   ⟨(some 13), .len (.t 12), none, none⟩,
   ⟨(some 14), .bin .neq (.t 11) (.t 13), none, none⟩])
  (.cond (.t 14) (.seq (.reg none [
    ⟨(some 6), .mv (.c (.v (.bool false))), none, none⟩])
   .ret) .skip))
  (.seq (.seq (.reg none [
   ⟨(some 15), .mv (.t 0), none, none⟩,
   ⟨(some 16), .len (.t 15), none, none⟩,
   ⟨(some 17), .mv (.c (.v (.int .i64 0))), none, none⟩])
  (.block 0 (.loop (.seq (.reg none [
     ⟨(some 18), .bin .lss (.t 17) (.t 16), none, none⟩])
    (.seq (.cond (.t 18) .skip (.exit 0))
    (.seq (.block 1 (.seq (.reg none [
      ⟨(some 19), .mv (.t 17), none, none⟩,
      ⟨(some 20), .idxA 1 (.t 15) (.t 17), none, none⟩,
      ⟨(some 21), .load none (.t 20), none, none⟩,
      ⟨(some 7), .mv (.t 19), none, none⟩,
      ⟨(some 8), .mv (.t 21), none, none⟩])
     (.seq (.reg none [
      ⟨(some 22), .mv (.t 1), none, none⟩,
      ⟨(some 23), .mv (.t 7), none, none⟩,
      ⟨(some 24), .idxA 1 (.t 22) (.t 23), none, none⟩,
      ⟨(some 25), .load none (.t 24), none, none⟩,
      ⟨(some 9), .mv (.t 25), none, none⟩])
     (.seq (.reg none [
      ⟨(some 26), .mv (.t 2), none, none⟩,
      ⟨(some 27), .mv (.t 8), none, none⟩,
      ⟨(some 28), .mv (.t 9), none, none⟩,
      ⟨(some 29), .mv (.c .junk), none, (some ((.t 26), [(.t 27), (.t 28)]))⟩,
      ⟨(some 30), .un .not (.t 29), none, none⟩])
     (.cond (.t 30) (.seq (.reg none [
       ⟨(some 6), .mv (.c (.v (.bool false))), none, none⟩])
      .ret) .skip)))))
    (.reg none [
     ⟨(some 31), .bin .add (.t 17) (.c (.v (.int .i64 1))), none, none⟩,
     ⟨(some 17), .mv (.t 31), none, none⟩])))))))
  (.seq (.reg none [
   ⟨(some 6), .mv (.c (.v (.bool true))), none, none⟩])
  .ret))))
def c_caesuraref13_Lists (f_caesuraref01_Ints : FuncId) : AC :=
  (.seq (.reg none [
   ⟨(some 4), .mv (.c (.v (.bool false))), none, none⟩])
  (.seq (.seq (.reg none [
   ⟨(some 6), .mv (.t 0), none, none⟩,
   ⟨(some 7), .len (.t 6), none, none⟩,
   ⟨(some 8), .mv (.t 1), none, none⟩,
   ⟨(some 9), .len (.t 8), none, none⟩,
   ⟨(some 10), .bin .neq (.t 7) (.t 9), none, none⟩])
  (.cond (.t 10) (.seq (.reg none [
    ⟨(some 4), .mv (.c (.v (.bool false))), none, none⟩])
   .ret) .skip))
  (.seq (.seq (.reg none [
   ⟨(some 5), .mv (.c (.v (.int .i64 0))), none, none⟩])
  (.block 0 (.loop (.seq (.seq (.reg none [
     ⟨(some 11), .mv (.t 5), none, none⟩,
     ⟨(some 12), .mv (.t 0), none, none⟩,
     ⟨(some 13), .len (.t 12), none, none⟩,
     ⟨(some 14), .bin .lss (.t 11) (.t 13), none, none⟩])
    (.cond (.t 14) .skip (.exit 0)))
    (.seq (.block 1 (.seq (.reg (some []) [
      ⟨(some 17), .mv (.t 0), none, none⟩,
      ⟨(some 18), .mv (.t 5), none, none⟩,
      ⟨(some 19), .idxA 1 (.t 17) (.t 18), none, none⟩,
      ⟨(some 20), .load none (.t 19), none, none⟩,
      ⟨(some 21), .mv (.t 1), none, none⟩,
      ⟨(some 22), .mv (.t 5), none, none⟩,
      ⟨(some 23), .idxA 1 (.t 21) (.t 22), none, none⟩,
      ⟨(some 24), .load none (.t 23), none, none⟩,
      ⟨(some 25), .mv (.c .junk), none, (some ((.c (.clo f_caesuraref01_Ints [] [])), [(.t 20), (.t 24)]))⟩,
      ⟨(some 26), .un .not (.t 25), none, none⟩])
     (.cond (.t 26) (.seq (.reg none [
       ⟨(some 4), .mv (.c (.v (.bool false))), none, none⟩])
      .ret) .skip)))
    (.reg none [
     ⟨(some 15), .mv (.t 5), none, none⟩,
     ⟨(some 16), .bin .add (.t 15) (.c (.v (.int .i64 1))), none, none⟩,
     ⟨(some 5), .mv (.t 16), none, none⟩]))))))
  (.seq (.reg none [
   ⟨(some 4), .mv (.c (.v (.bool true))), none, none⟩])
  .ret))))
def eqI (a b : List Int) (i : Nat) (f : AF) (S : St) : Prop := f 13 = encI i ∧ f 12 = encI a.length ∧ f 0 = encIs a ∧ f 1 = encIs b ∧ a.take i = b.take i
theorem slices_Equal_body {P : Program} (a b : List Int) (ha : Len a) (hb : Len b) : AW P c_slices_Equal_Sint_int_ (RetK [4] (FzK (encB (a == b)))) (argF [encIs a, encIs b]) S0 := by
  unfold Len at ha hb
  by_cases hl : a.length = b.length
  · simp [Z0h, Z0c, Z0d, Z09, Z0a, Z0i, Z0b, Z0f, Z0g, Z2z, Z2y, Z07, Z08, Z06, Z01, Z02, Z00, Z04, Z05, Z03, Z1z, Z1y, Z46, Z48, Z47, Z45, Z1n, Z1o, Z1m, Z3n, Z3k, Z3m, Z3l, Z3o, Z1l, Z29, Z32, Z3x, Z1i, Z1j, Z1k, Z3v, Z3w, Z1g, Z28, Z1h, Z3i, Z3f, Z3h, Z3g, Z3j, Z41, Z40, Z0t, Z0u, Z0v, Z0s, Z1f, Z4c, Z4b, Z4d, Z4a, Z49, ex, Z43, Z42, ev_t, ev_c, Z27, Z26, Z4e, Z4f, Z2m, Z2l, Z2f, Z2j, Z2k, Z2g, Z2h, Z2i, putc, exBslice, lfill, exField, exIdxV, exIdxP, exBox, exAlloc, exLoad, exStore, exFieldA, exIdxA, exLen, exPick, exUn, exBeq, exMM, exSeq, seqGo, exExt, binV, intOp, subc, AV.solid, S0, encI, encB, c_slices_Equal_Sint_int_, encIs, hl]
    refine AW_for a.length (eqI a b) ?_ ?_
    · refine ⟨?_, ?_, ?_, ?_, ?_⟩ <;> simp [Z43, Z27, Z26, encI, encIs, hl]
    · rintro i f S hi ⟨e13, e12, e0, e1, hp⟩
      by_cases hlt : i < a.length
      · have hlb : i < b.length := by omega
        by_cases he : a[i] = b[i]
        · simp [Z0h, Z0c, Z0d, Z09, Z0a, Z0i, Z0b, Z0f, Z0g, Z2z, Z2y, Z07, Z08, Z06, Z01, Z02, Z00, Z04, Z05, Z03, Z1z, Z1y, Z46, Z48, Z47, Z45, Z1n, Z1o, Z1m, Z3n, Z3k, Z3m, Z3l, Z3o, Z1l, Z29, Z32, Z3x, Z1i, Z1j, Z1k, Z3v, Z3w, Z1g, Z28, Z1h, Z3i, Z3f, Z3h, Z3g, Z3j, Z41, Z40, Z0t, Z0u, Z0v, Z0s, Z1f, Z4c, Z4b, Z4d, Z4a, Z49, ex, Z43, Z42, ev_t, ev_c, Z27, Z26, Z4e, Z4f, Z2m, Z2l, Z2f, Z2j, Z2k, Z2g, Z2h, Z2i, putc, exBslice, lfill, exField, exIdxV, exIdxP, exBox, exAlloc, exLoad, exStore, exFieldA, exIdxA, exLen, exPick, exUn, exBeq, exMM, exSeq, seqGo, exExt, binV, intOp, subc, AV.solid, S0, encI, encB, e13, e12, e0, e1, encIs, hlt, hlb, he]
          rw [wrap_in _ (by omega)]
          refine ⟨hlt, ?_, ?_, ?_, ?_, ?_⟩ <;> try simp [Z43, e12, e0, e1, encI, encIs]
          rw [List.take_add_one, List.take_add_one, hp, List.getElem?_eq_getElem hlt, List.getElem?_eq_getElem hlb, he]
        · have hr : (a == b) = false := beq_false_of_ne (by rintro rfl; exact he rfl)
          have hc : (a[i] != b[i]) = true := by simp [he]
          simp [Z0h, Z0c, Z0d, Z09, Z0a, Z0i, Z0b, Z0f, Z0g, Z2z, Z2y, Z07, Z08, Z06, Z01, Z02, Z00, Z04, Z05, Z03, Z1z, Z1y, Z46, Z48, Z47, Z45, Z1n, Z1o, Z1m, Z3n, Z3k, Z3m, Z3l, Z3o, Z1l, Z29, Z32, Z3x, Z1i, Z1j, Z1k, Z3v, Z3w, Z1g, Z28, Z1h, Z3i, Z3f, Z3h, Z3g, Z3j, Z41, Z40, Z0t, Z0u, Z0v, Z0s, Z1f, Z4c, Z4b, Z4d, Z4a, Z49, ex, Z43, Z42, ev_t, ev_c, Z27, Z26, Z4e, Z4f, Z2m, Z2l, Z2f, Z2j, Z2k, Z2g, Z2h, Z2i, putc, exBslice, lfill, exField, exIdxV, exIdxP, exBox, exAlloc, exLoad, exStore, exFieldA, exIdxA, exLen, exPick, exUn, exBeq, exMM, exSeq, seqGo, exExt, binV, intOp, subc, AV.solid, S0, encI, encB, e13, e12, e0, e1, encIs, hlt, hlb, hc, hr]
          exact FzK_B false _
      · have hab : a = b := by
          rw [List.take_of_length_le (by omega), List.take_of_length_le (by omega)] at hp; exact hp
        have hr : (a == b) = true := by simp [hab]
        simp [Z0h, Z0c, Z0d, Z09, Z0a, Z0i, Z0b, Z0f, Z0g, Z2z, Z2y, Z07, Z08, Z06, Z01, Z02, Z00, Z04, Z05, Z03, Z1z, Z1y, Z46, Z48, Z47, Z45, Z1n, Z1o, Z1m, Z3n, Z3k, Z3m, Z3l, Z3o, Z1l, Z29, Z32, Z3x, Z1i, Z1j, Z1k, Z3v, Z3w, Z1g, Z28, Z1h, Z3i, Z3f, Z3h, Z3g, Z3j, Z41, Z40, Z0t, Z0u, Z0v, Z0s, Z1f, Z4c, Z4b, Z4d, Z4a, Z49, ex, Z43, Z42, ev_t, ev_c, Z27, Z26, Z4e, Z4f, Z2m, Z2l, Z2f, Z2j, Z2k, Z2g, Z2h, Z2i, putc, exBslice, lfill, exField, exIdxV, exIdxP, exBox, exAlloc, exLoad, exStore, exFieldA, exIdxA, exLen, exPick, exUn, exBeq, exMM, exSeq, seqGo, exExt, binV, intOp, subc, AV.solid, S0, encI, encB, e13, e12, e0, e1, encIs, hlt, hr]
        exact FzK_B true _
  · have hr : (a == b) = false := beq_false_of_ne (by rintro rfl; exact hl rfl)
    have hc : ((a.length : Int) != b.length) = true := by simp; omega
    simp [Z0h, Z0c, Z0d, Z09, Z0a, Z0i, Z0b, Z0f, Z0g, Z2z, Z2y, Z07, Z08, Z06, Z01, Z02, Z00, Z04, Z05, Z03, Z1z, Z1y, Z46, Z48, Z47, Z45, Z1n, Z1o, Z1m, Z3n, Z3k, Z3m, Z3l, Z3o, Z1l, Z29, Z32, Z3x, Z1i, Z1j, Z1k, Z3v, Z3w, Z1g, Z28, Z1h, Z3i, Z3f, Z3h, Z3g, Z3j, Z41, Z40, Z0t, Z0u, Z0v, Z0s, Z1f, Z4c, Z4b, Z4d, Z4a, Z49, ex, Z43, Z42, ev_t, ev_c, Z27, Z26, Z4e, Z4f, Z2m, Z2l, Z2f, Z2j, Z2k, Z2g, Z2h, Z2i, putc, exBslice, lfill, exField, exIdxV, exIdxP, exBox, exAlloc, exLoad, exStore, exFieldA, exIdxA, exLen, exPick, exUn, exBeq, exMM, exSeq, seqGo, exExt, binV, intOp, subc, AV.solid, S0, encI, encB, c_slices_Equal_Sint_int_, encIs, hc, hr]
    exact FzK_B false _
/-- Lists of lists, by a function that tells whether two of them are alike. -/
def efI (a b : List (List Int)) (g : FuncId) (i : Nat) (f : AF) (S : St) : Prop := f 17 = encI i ∧ f 16 = encI a.length ∧ f 15 = encIss a ∧ f 0 = encIss a ∧ f 1 = encIss b ∧ f 2 = .clo g [] [] ∧ a.take i = b.take i
theorem slices_EqualFunc_body {P : Program} {g : FuncId} (a b : List (List Int)) (ha : Len a) (hb : Len b) (h : ∀ x ∈ a, ∀ y ∈ b, PureC P g [encIs x, encIs y] (encB (x == y))) : AW P c_slices_EqualFunc_SSint_SSint_Sint_Sint_ (RetK [6] (FzK (encB (a == b)))) (argF [encIss a, encIss b, .clo g [] []]) S0 := by
  unfold Len at ha hb
  by_cases hl : a.length = b.length
  · simp [Z0h, Z0c, Z0d, Z09, Z0a, Z0i, Z0b, Z0f, Z0g, Z2z, Z2y, Z07, Z08, Z06, Z01, Z02, Z00, Z04, Z05, Z03, Z1z, Z1y, Z46, Z48, Z47, Z45, Z1n, Z1o, Z1m, Z3n, Z3k, Z3m, Z3l, Z3o, Z1l, Z29, Z32, Z3x, Z1i, Z1j, Z1k, Z3v, Z3w, Z1g, Z28, Z1h, Z3i, Z3f, Z3h, Z3g, Z3j, Z41, Z40, Z0t, Z0u, Z0v, Z0s, Z1f, Z4c, Z4b, Z4d, Z4a, Z49, ex, Z43, Z42, ev_t, ev_c, Z27, Z26, Z4e, Z4f, Z2m, Z2l, Z2f, Z2j, Z2k, Z2g, Z2h, Z2i, putc, exBslice, lfill, exField, exIdxV, exIdxP, exBox, exAlloc, exLoad, exStore, exFieldA, exIdxA, exLen, exPick, exUn, exBeq, exMM, exSeq, seqGo, exExt, binV, intOp, subc, AV.solid, S0, encI, encB, c_slices_EqualFunc_SSint_SSint_Sint_Sint_, encIss, hl]
    refine AW_for a.length (efI a b g) ?_ ?_
    · refine ⟨?_, ?_, ?_, ?_, ?_, ?_, ?_⟩ <;> simp [Z43, Z27, Z26, encI, encIss, hl]
    · rintro i f S hi ⟨e17, e16, e15, e0, e1, e2, hp⟩
      by_cases hlt : i < a.length
      · have hlb : i < b.length := by omega
        have hh := h a[i] (List.getElem_mem hlt) b[i] (List.getElem_mem hlb)
        have hcl := cl_cons (Z2s a[i]) (cl_cons (Z2s b[i]) cl_nil)
        simp only [encIs] at hh hcl
        simp [Z0h, Z0c, Z0d, Z09, Z0a, Z0i, Z0b, Z0f, Z0g, Z2z, Z2y, Z07, Z08, Z06, Z01, Z02, Z00, Z04, Z05, Z03, Z1z, Z1y, Z46, Z48, Z47, Z45, Z1n, Z1o, Z1m, Z3n, Z3k, Z3m, Z3l, Z3o, Z1l, Z29, Z32, Z3x, Z1i, Z1j, Z1k, Z3v, Z3w, Z1g, Z28, Z1h, Z3i, Z3f, Z3h, Z3g, Z3j, Z41, Z40, Z0t, Z0u, Z0v, Z0s, Z1f, Z4c, Z4b, Z4d, Z4a, Z49, ex, Z43, Z42, ev_t, ev_c, Z27, Z26, Z4e, Z4f, Z2m, Z2l, Z2f, Z2j, Z2k, Z2g, Z2h, Z2i, putc, exBslice, lfill, exField, exIdxV, exIdxP, exBox, exAlloc, exLoad, exStore, exFieldA, exIdxA, exLen, exPick, exUn, exBeq, exMM, exSeq, seqGo, exExt, binV, intOp, subc, AV.solid, S0, encI, encB, e17, e16, e15, e0, e1, e2, encIss, hlt, hlb, encIs]
        refine CallR.pure hh hcl (Z2o _) ?_
        by_cases he : a[i] = b[i]
        · simp [Z0h, Z0c, Z0d, Z09, Z0a, Z0i, Z0b, Z0f, Z0g, Z2z, Z2y, Z07, Z08, Z06, Z01, Z02, Z00, Z04, Z05, Z03, Z1z, Z1y, Z46, Z48, Z47, Z45, Z1n, Z1o, Z1m, Z3n, Z3k, Z3m, Z3l, Z3o, Z1l, Z29, Z32, Z3x, Z1i, Z1j, Z1k, Z3v, Z3w, Z1g, Z28, Z1h, Z3i, Z3f, Z3h, Z3g, Z3j, Z41, Z40, Z0t, Z0u, Z0v, Z0s, Z1f, Z4c, Z4b, Z4d, Z4a, Z49, ex, Z43, Z42, ev_t, ev_c, Z27, Z26, Z4e, Z4f, Z2m, Z2l, Z2f, Z2j, Z2k, Z2g, Z2h, Z2i, putc, exBslice, lfill, exField, exIdxV, exIdxP, exBox, exAlloc, exLoad, exStore, exFieldA, exIdxA, exLen, exPick, exUn, exBeq, exMM, exSeq, seqGo, exExt, binV, intOp, subc, AV.solid, S0, encI, encB, e17, e16, e15, e0, e1, e2, encIss, he]
          rw [wrap_in _ (by omega)]
          refine ⟨hlt, ?_, ?_, ?_, ?_, ?_, ?_, ?_⟩ <;> try simp [Z43, e16, e15, e0, e1, e2, encI, encIss]
          rw [List.take_add_one, List.take_add_one, hp, List.getElem?_eq_getElem hlt, List.getElem?_eq_getElem hlb, he]
        · have hr : (a == b) = false := beq_false_of_ne (by rintro rfl; exact he rfl)
          have hc : (a[i] == b[i]) = false := by simp [he]
          simp [Z0h, Z0c, Z0d, Z09, Z0a, Z0i, Z0b, Z0f, Z0g, Z2z, Z2y, Z07, Z08, Z06, Z01, Z02, Z00, Z04, Z05, Z03, Z1z, Z1y, Z46, Z48, Z47, Z45, Z1n, Z1o, Z1m, Z3n, Z3k, Z3m, Z3l, Z3o, Z1l, Z29, Z32, Z3x, Z1i, Z1j, Z1k, Z3v, Z3w, Z1g, Z28, Z1h, Z3i, Z3f, Z3h, Z3g, Z3j, Z41, Z40, Z0t, Z0u, Z0v, Z0s, Z1f, Z4c, Z4b, Z4d, Z4a, Z49, ex, Z43, Z42, ev_t, ev_c, Z27, Z26, Z4e, Z4f, Z2m, Z2l, Z2f, Z2j, Z2k, Z2g, Z2h, Z2i, putc, exBslice, lfill, exField, exIdxV, exIdxP, exBox, exAlloc, exLoad, exStore, exFieldA, exIdxA, exLen, exPick, exUn, exBeq, exMM, exSeq, seqGo, exExt, binV, intOp, subc, AV.solid, S0, encI, encB, e17, e16, e15, e0, e1, e2, encIss, hc, hr]
          exact FzK_B false _
      · have hab : a = b := by
          rw [List.take_of_length_le (by omega), List.take_of_length_le (by omega)] at hp; exact hp
        have hr : (a == b) = true := by simp [hab]
        simp [Z0h, Z0c, Z0d, Z09, Z0a, Z0i, Z0b, Z0f, Z0g, Z2z, Z2y, Z07, Z08, Z06, Z01, Z02, Z00, Z04, Z05, Z03, Z1z, Z1y, Z46, Z48, Z47, Z45, Z1n, Z1o, Z1m, Z3n, Z3k, Z3m, Z3l, Z3o, Z1l, Z29, Z32, Z3x, Z1i, Z1j, Z1k, Z3v, Z3w, Z1g, Z28, Z1h, Z3i, Z3f, Z3h, Z3g, Z3j, Z41, Z40, Z0t, Z0u, Z0v, Z0s, Z1f, Z4c, Z4b, Z4d, Z4a, Z49, ex, Z43, Z42, ev_t, ev_c, Z27, Z26, Z4e, Z4f, Z2m, Z2l, Z2f, Z2j, Z2k, Z2g, Z2h, Z2i, putc, exBslice, lfill, exField, exIdxV, exIdxP, exBox, exAlloc, exLoad, exStore, exFieldA, exIdxA, exLen, exPick, exUn, exBeq, exMM, exSeq, seqGo, exExt, binV, intOp, subc, AV.solid, S0, encI, encB, e17, e16, e15, e0, e1, e2, encIss, hlt, hr]
        exact FzK_B true _
  · have hr : (a == b) = false := beq_false_of_ne (by rintro rfl; exact hl rfl)
    have hc : ((a.length : Int) != b.length) = true := by simp; omega
    simp [Z0h, Z0c, Z0d, Z09, Z0a, Z0i, Z0b, Z0f, Z0g, Z2z, Z2y, Z07, Z08, Z06, Z01, Z02, Z00, Z04, Z05, Z03, Z1z, Z1y, Z46, Z48, Z47, Z45, Z1n, Z1o, Z1m, Z3n, Z3k, Z3m, Z3l, Z3o, Z1l, Z29, Z32, Z3x, Z1i, Z1j, Z1k, Z3v, Z3w, Z1g, Z28, Z1h, Z3i, Z3f, Z3h, Z3g, Z3j, Z41, Z40, Z0t, Z0u, Z0v, Z0s, Z1f, Z4c, Z4b, Z4d, Z4a, Z49, ex, Z43, Z42, ev_t, ev_c, Z27, Z26, Z4e, Z4f, Z2m, Z2l, Z2f, Z2j, Z2k, Z2g, Z2h, Z2i, putc, exBslice, lfill, exField, exIdxV, exIdxP, exBox, exAlloc, exLoad, exStore, exFieldA, exIdxA, exLen, exPick, exUn, exBeq, exMM, exSeq, seqGo, exExt, binV, intOp, subc, AV.solid, S0, encI, encB, c_slices_EqualFunc_SSint_SSint_Sint_Sint_, encIss, hc, hr]
    exact FzK_B false _
def liI (a b : List (List Int)) (i : Nat) (f : AF) (S : St) : Prop := f 5 = encI i ∧ f 0 = encIss a ∧ f 1 = encIss b ∧ a.take i = b.take i
theorem Lists13_body {P : Program} {g : FuncId} (a b : List (List Int)) (ha : Len a) (hb : Len b) (h : ∀ x ∈ a, ∀ y ∈ b, PureC P g [encIs x, encIs y] (encB (x == y))) : AW P (c_caesuraref13_Lists g) (RetK [4] (FzK (encB (a == b)))) (argF [encIss a, encIss b]) S0 := by
  unfold Len at ha hb
  by_cases hl : a.length = b.length
  · simp [Z0h, Z0c, Z0d, Z09, Z0a, Z0i, Z0b, Z0f, Z0g, Z2z, Z2y, Z07, Z08, Z06, Z01, Z02, Z00, Z04, Z05, Z03, Z1z, Z1y, Z46, Z48, Z47, Z45, Z1n, Z1o, Z1m, Z3n, Z3k, Z3m, Z3l, Z3o, Z1l, Z29, Z32, Z3x, Z1i, Z1j, Z1k, Z3v, Z3w, Z1g, Z28, Z1h, Z3i, Z3f, Z3h, Z3g, Z3j, Z41, Z40, Z0t, Z0u, Z0v, Z0s, Z1f, Z4c, Z4b, Z4d, Z4a, Z49, ex, Z43, Z42, ev_t, ev_c, Z27, Z26, Z4e, Z4f, Z2m, Z2l, Z2f, Z2j, Z2k, Z2g, Z2h, Z2i, putc, exBslice, lfill, exField, exIdxV, exIdxP, exBox, exAlloc, exLoad, exStore, exFieldA, exIdxA, exLen, exPick, exUn, exBeq, exMM, exSeq, seqGo, exExt, binV, intOp, subc, AV.solid, S0, encI, encB, c_caesuraref13_Lists, encIss, hl]
    refine AW_for a.length (liI a b) ?_ ?_
    · refine ⟨?_, ?_, ?_, ?_⟩ <;> simp [Z43, Z27, Z26, encI, encIss]
    · rintro i f S hi ⟨e5, e0, e1, hp⟩
      by_cases hlt : i < a.length
      · have hlb : i < b.length := by omega
        have hh := h a[i] (List.getElem_mem hlt) b[i] (List.getElem_mem hlb)
        have hcl := cl_cons (Z2s a[i]) (cl_cons (Z2s b[i]) cl_nil)
        simp only [encIs] at hh hcl
        have hd : ∀ n g', CallD P g [.sl false ((a[i]).map encI), .sl false ((b[i]).map encI)] ⟨n, g'⟩ [] (encB (a[i] == b[i])) := fun n g' => CallD.kl hh hcl (Z2o _)
        simp [Z0h, Z0c, Z0d, Z09, Z0a, Z0i, Z0b, Z0f, Z0g, Z2z, Z2y, Z07, Z08, Z06, Z01, Z02, Z00, Z04, Z05, Z03, Z1z, Z1y, Z46, Z48, Z47, Z45, Z1n, Z1o, Z1m, Z3n, Z3k, Z3m, Z3l, Z3o, Z1l, Z29, Z32, Z3x, Z1i, Z1j, Z1k, Z3v, Z3w, Z1g, Z28, Z1h, Z3i, Z3f, Z3h, Z3g, Z3j, Z41, Z40, Z0t, Z0u, Z0v, Z0s, Z1f, Z4c, Z4b, Z4d, Z4a, Z49, ex, Z43, Z42, ev_t, ev_c, Z27, Z26, Z4e, Z4f, Z2m, Z2l, Z2f, Z2j, Z2k, Z2g, Z2h, Z2i, putc, exBslice, lfill, exField, exIdxV, exIdxP, exBox, exAlloc, exLoad, exStore, exFieldA, exIdxA, exLen, exPick, exUn, exBeq, exMM, exSeq, seqGo, exExt, binV, intOp, subc, AV.solid, S0, encI, encB, e5, e0, e1, encIss, hlt, hlb, encIs]
        refine ⟨_, ⟨_, hd _ _⟩, ?_⟩
        by_cases he : a[i] = b[i]
        · simp [Z0h, Z0c, Z0d, Z09, Z0a, Z0i, Z0b, Z0f, Z0g, Z2z, Z2y, Z07, Z08, Z06, Z01, Z02, Z00, Z04, Z05, Z03, Z1z, Z1y, Z46, Z48, Z47, Z45, Z1n, Z1o, Z1m, Z3n, Z3k, Z3m, Z3l, Z3o, Z1l, Z29, Z32, Z3x, Z1i, Z1j, Z1k, Z3v, Z3w, Z1g, Z28, Z1h, Z3i, Z3f, Z3h, Z3g, Z3j, Z41, Z40, Z0t, Z0u, Z0v, Z0s, Z1f, Z4c, Z4b, Z4d, Z4a, Z49, ex, Z43, Z42, ev_t, ev_c, Z27, Z26, Z4e, Z4f, Z2m, Z2l, Z2f, Z2j, Z2k, Z2g, Z2h, Z2i, putc, exBslice, lfill, exField, exIdxV, exIdxP, exBox, exAlloc, exLoad, exStore, exFieldA, exIdxA, exLen, exPick, exUn, exBeq, exMM, exSeq, seqGo, exExt, binV, intOp, subc, AV.solid, S0, encI, encB, e5, e0, e1, encIss, he]
          rw [wrap_in _ (by omega)]
          refine ⟨hlt, ?_, ?_, ?_, ?_⟩ <;> try simp [Z43, e0, e1, encI, encIss]
          rw [List.take_add_one, List.take_add_one, hp, List.getElem?_eq_getElem hlt, List.getElem?_eq_getElem hlb, he]
        · have hr : (a == b) = false := beq_false_of_ne (by rintro rfl; exact he rfl)
          have hc : (a[i] == b[i]) = false := by simp [he]
          simp [Z0h, Z0c, Z0d, Z09, Z0a, Z0i, Z0b, Z0f, Z0g, Z2z, Z2y, Z07, Z08, Z06, Z01, Z02, Z00, Z04, Z05, Z03, Z1z, Z1y, Z46, Z48, Z47, Z45, Z1n, Z1o, Z1m, Z3n, Z3k, Z3m, Z3l, Z3o, Z1l, Z29, Z32, Z3x, Z1i, Z1j, Z1k, Z3v, Z3w, Z1g, Z28, Z1h, Z3i, Z3f, Z3h, Z3g, Z3j, Z41, Z40, Z0t, Z0u, Z0v, Z0s, Z1f, Z4c, Z4b, Z4d, Z4a, Z49, ex, Z43, Z42, ev_t, ev_c, Z27, Z26, Z4e, Z4f, Z2m, Z2l, Z2f, Z2j, Z2k, Z2g, Z2h, Z2i, putc, exBslice, lfill, exField, exIdxV, exIdxP, exBox, exAlloc, exLoad, exStore, exFieldA, exIdxA, exLen, exPick, exUn, exBeq, exMM, exSeq, seqGo, exExt, binV, intOp, subc, AV.solid, S0, encI, encB, e5, e0, e1, encIss, hc, hr]
          exact FzK_B false _
      · have hab : a = b := by
          rw [List.take_of_length_le (by omega), List.take_of_length_le (by omega)] at hp; exact hp
        have hr : (a == b) = true := by simp [hab]
        simp [Z0h, Z0c, Z0d, Z09, Z0a, Z0i, Z0b, Z0f, Z0g, Z2z, Z2y, Z07, Z08, Z06, Z01, Z02, Z00, Z04, Z05, Z03, Z1z, Z1y, Z46, Z48, Z47, Z45, Z1n, Z1o, Z1m, Z3n, Z3k, Z3m, Z3l, Z3o, Z1l, Z29, Z32, Z3x, Z1i, Z1j, Z1k, Z3v, Z3w, Z1g, Z28, Z1h, Z3i, Z3f, Z3h, Z3g, Z3j, Z41, Z40, Z0t, Z0u, Z0v, Z0s, Z1f, Z4c, Z4b, Z4d, Z4a, Z49, ex, Z43, Z42, ev_t, ev_c, Z27, Z26, Z4e, Z4f, Z2m, Z2l, Z2f, Z2j, Z2k, Z2g, Z2h, Z2i, putc, exBslice, lfill, exField, exIdxV, exIdxP, exBox, exAlloc, exLoad, exStore, exFieldA, exIdxA, exLen, exPick, exUn, exBeq, exMM, exSeq, seqGo, exExt, binV, intOp, subc, AV.solid, S0, encI, encB, e5, e0, e1, encIss, hlt, hr]
        exact FzK_B true _
  · have hr : (a == b) = false := beq_false_of_ne (by rintro rfl; exact hl rfl)
    have hc : ((a.length : Int) != b.length) = true := by simp; omega
    simp [Z0h, Z0c, Z0d, Z09, Z0a, Z0i, Z0b, Z0f, Z0g, Z2z, Z2y, Z07, Z08, Z06, Z01, Z02, Z00, Z04, Z05, Z03, Z1z, Z1y, Z46, Z48, Z47, Z45, Z1n, Z1o, Z1m, Z3n, Z3k, Z3m, Z3l, Z3o, Z1l, Z29, Z32, Z3x, Z1i, Z1j, Z1k, Z3v, Z3w, Z1g, Z28, Z1h, Z3i, Z3f, Z3h, Z3g, Z3j, Z41, Z40, Z0t, Z0u, Z0v, Z0s, Z1f, Z4c, Z4b, Z4d, Z4a, Z49, ex, Z43, Z42, ev_t, ev_c, Z27, Z26, Z4e, Z4f, Z2m, Z2l, Z2f, Z2j, Z2k, Z2g, Z2h, Z2i, putc, exBslice, lfill, exField, exIdxV, exIdxP, exBox, exAlloc, exLoad, exStore, exFieldA, exIdxA, exLen, exPick, exUn, exBeq, exMM, exSeq, seqGo, exExt, binV, intOp, subc, AV.solid, S0, encI, encB, c_caesuraref13_Lists, encIss, hc, hr]
    exact FzK_B false _
/-! ### numbers, rising, each once -/
structure HSet (P : Program) (fc fs fm : FuncId) : Prop where
  clone : ByC P fc (c_cloneOv 1 8 (.v (.int .i64 0))) [.t 2] 1
  sort : HSort P fs
  comp : HComp P fm
  sort0 : PureC P fs [.sl true []] (.tup [])
  comp0 : PureC P fm [.sl true []] (.sl true [])
end Go.Rf

