import Derived.Test.YtgehkmifnjldfaaRfSort
import Derived.Test.YtgehkmifnjldfaaRfL10
/- Own work: automata that may choose: what looks at them. -/
set_option linter.unusedVariables false
set_option linter.unusedSimpArgs false
namespace Go.Rf
open Go.RowKit

/-- A loop, its rounds counted. -/
def FNext (n : Nat) (I : Nat → AF → St → Prop) (k : Nat) : AF → St → Prop := fun f S => k < n ∧ I (k + 1) f S
theorem AW_for {P : Program} {x : AC} {Q : Exit → AF → St → Prop} {f : AF} {S : St} (n : Nat) (I : Nat → AF → St → Prop) (h0 : I 0 f S) (h : ∀ k f S, k ≤ n → I k f S → AW P x (AThen (FNext n I k) Q) f S) : AW P (.loop x) Q f S := by
  refine AW_loop (fun m f S => ∃ k, k ≤ n ∧ m = n - k ∧ I k f S) n ⟨0, by omega, by omega, h0⟩ ?_
  rintro m f S ⟨k, hk, rfl, hi⟩
  refine AW_mono _ (fun e a S' hq => ?_) (h k f S hk hi)
  cases e <;> simp only [AThen] at hq ⊢ <;> first | exact hq | skip
  obtain ⟨h1, h2⟩ := hq
  exact ⟨n - (k + 1), by omega, k + 1, by omega, rfl, h2⟩
def c_slices_Index_Sint_int_ : AC :=
  (.seq (.reg none [
   ⟨(some 4), .mv (.c (.v (.int .i64 0))), none, none⟩])
  (.seq (.seq (.reg none [
   ⟨(some 6), .mv (.t 0), none, none⟩,
   ⟨(some 7), .len (.t 6), none, none⟩,
   ⟨(some 8), .mv (.c (.v (.int .i64 0))), none, none⟩])
  (.block 0 (.loop (.seq (.reg none [
     ⟨(some 9), .bin .lss (.t 8) (.t 7), none, none⟩])
    (.seq (.cond (.t 9) .skip (.exit 0))
    (.seq (.block 1 (.seq (.reg none [
      ⟨(some 10), .mv (.t 8), none, none⟩,
      ⟨(some 5), .mv (.t 10), none, none⟩])
     (.seq (.reg none [
      ⟨(some 11), .mv (.t 1), none, none⟩,
      ⟨(some 12), .mv (.t 0), none, none⟩,
      ⟨(some 13), .mv (.t 5), none, none⟩,
      ⟨(some 14), .idxA 1 (.t 12) (.t 13), none, none⟩,
      ⟨(some 15), .load none (.t 14), none, none⟩,
      ⟨(some 16), .bin .eql (.t 11) (.t 15), none, none⟩])
     (.cond (.t 16) (.seq (.reg none [
       ⟨(some 17), .mv (.t 5), none, none⟩,
       ⟨(some 4), .mv (.t 17), none, none⟩])
      .ret) .skip))))
    (.reg none [
     ⟨(some 18), .bin .add (.t 8) (.c (.v (.int .i64 1))), none, none⟩,
     ⟨(some 8), .mv (.t 18), none, none⟩])))))))
  (.seq (.reg none [
   ⟨(some 4), .mv (.c (.v (.int .i64 (-1)))), none, none⟩])
  .ret)))
def c_slices_Contains_Sint_int_ (f_slices_Index_Sint_int_ : FuncId) : AC :=
  (.seq (.reg none [
   ⟨(some 4), .mv (.c (.v (.bool false))), none, none⟩])
  (.seq (.reg none [
   ⟨(some 5), .mv (.t 0), none, none⟩,
   ⟨(some 6), .mv (.t 1), none, none⟩,
   ⟨(some 7), .mv (.c .junk), none, (some ((.c (.clo f_slices_Index_Sint_int_ [] [])), [(.t 5), (.t 6)]))⟩,
   ⟨(some 8), .bin .geq (.t 7) (.c (.v (.int .i64 0))), none, none⟩,
   ⟨(some 4), .mv (.t 8), none, none⟩])
  .ret))
def c_slices_Equal_Sint_int_ : AC :=
  (.seq (.reg none [
   ⟨(some 4), .mv (.c (.v (.bool false))), none, none⟩])
  (.seq (.seq (.reg none [
   ⟨(some 6), .mv (.t 0), none, none⟩,
   ⟨(some 7), .len (.t 6), none, none⟩,
   ⟨(some 8), .mv (.t 1), none, none⟩,
   ⟨(some 9), .len (.t 8), none, none⟩,
   ⟨(some 10), .bin .neq (.t 7) (.t 9), none, none⟩])
  (.cond (.t 10) (.seq (.reg none [
    ⟨(some 4), .mv (.c (.v (.bool false))), none, none⟩])
   .ret) .skip))
  (.seq (.seq (.reg none [
   ⟨(some 11), .mv (.t 0), none, none⟩,
   ⟨(some 12), .len (.t 11), none, none⟩,
   ⟨(some 13), .mv (.c (.v (.int .i64 0))), none, none⟩])
  (.block 0 (.loop (.seq (.reg none [
     ⟨(some 14), .bin .lss (.t 13) (.t 12), none, none⟩])
    (.seq (.cond (.t 14) .skip (.exit 0))
    (.seq (.block 1 (.seq (.reg none [
      ⟨(some 15), .mv (.t 13), none, none⟩,
      ⟨(some 5), .mv (.t 15), none, none⟩])
     (.seq (.reg (some []) [
      ⟨(some 16), .mv (.t 0), none, none⟩,
      ⟨(some 17), .mv (.t 5), none, none⟩,
      ⟨(some 18), .idxA 1 (.t 16) (.t 17), none, none⟩,
      ⟨(some 19), .load none (.t 18), none, none⟩,
      ⟨(some 20), .mv (.t 1), none, none⟩,
      ⟨(some 21), .mv (.t 5), none, none⟩,
      ⟨(some 22), .idxA 1 (.t 20) (.t 21), none, none⟩,
      ⟨(some 23), .load none (.t 22), none, none⟩,
      ⟨(some 24), .bin .neq (.t 19) (.t 23), none, none⟩])
     (.cond (.t 24) (.seq (.reg none [
       ⟨(some 4), .mv (.c (.v (.bool false))), none, none⟩])
      .ret) .skip))))
    (.reg none [
     ⟨(some 25), .bin .add (.t 13) (.c (.v (.int .i64 1))), none, none⟩,
     ⟨(some 13), .mv (.t 25), none, none⟩])))))))
  (.seq (.reg none [
   ⟨(some 4), .mv (.c (.v (.bool true))), none, none⟩])
  .ret))))
def c_caesuraref13_has : AC :=
  (.seq (.reg none [
   ⟨(some 4), .mv (.c (.v (.bool false))), none, none⟩])
  (.seq (.seq (.reg none [
   ⟨(some 5), .mv (.c (.v (.int .i64 0))), none, none⟩])
  (.block 0 (.loop (.seq (.seq (.reg none [
     ⟨(some 6), .mv (.t 5), none, none⟩,
     ⟨(some 7), .mv (.t 0), none, none⟩,
     ⟨(some 8), .len (.t 7), none, none⟩,
     ⟨(some 9), .bin .lss (.t 6) (.t 8), none, none⟩])
    (.cond (.t 9) .skip (.exit 0)))
    (.seq (.block 1 (.seq (.reg none [
      ⟨(some 12), .mv (.t 0), none, none⟩,
      ⟨(some 13), .mv (.t 5), none, none⟩,
      ⟨(some 14), .idxA 1 (.t 12) (.t 13), none, none⟩,
      ⟨(some 15), .load none (.t 14), none, none⟩,
      ⟨(some 16), .mv (.t 1), none, none⟩,
      ⟨(some 17), .bin .eql (.t 15) (.t 16), none, none⟩])
     (.cond (.t 17) (.seq (.reg none [
       ⟨(some 4), .mv (.c (.v (.bool true))), none, none⟩])
      .ret) .skip)))
    (.reg none [
     ⟨(some 10), .mv (.t 5), none, none⟩,
     ⟨(some 11), .bin .add (.t 10) (.c (.v (.int .i64 1))), none, none⟩,
     ⟨(some 5), .mv (.t 11), none, none⟩]))))))
  (.seq (.reg none [
   ⟨(some 4), .mv (.c (.v (.bool false))), none, none⟩])
  .ret)))
def c_caesuraref13_Lists (f_caesuraref01_Ints : FuncId) : AC :=
  (.seq (.reg none [
   ⟨(some 4), .mv (.c (.v (.bool false))), none, none⟩])
  (.seq (.seq (.reg none [
   ⟨(some 6), .mv (.t 0), none, none⟩,
   ⟨(some 7), .len (.t 6), none, none⟩,
   ⟨(some 8), .mv (.t 1), none, none⟩,
   ⟨(some 9), .len (.t 8), none, none⟩,
   ⟨(some 10), .bin .neq (.t 7) (.t 9), none, none⟩])
  (.cond (.t 10) (.seq (.reg none [
    ⟨(some 4), .mv (.c (.v (.bool false))), none, none⟩])
   .ret) .skip))
  (.seq (.seq (.reg none [
   ⟨(some 5), .mv (.c (.v (.int .i64 0))), none, none⟩])
  (.block 0 (.loop (.seq (.seq (.reg none [
     ⟨(some 11), .mv (.t 5), none, none⟩,
     ⟨(some 12), .mv (.t 0), none, none⟩,
     ⟨(some 13), .len (.t 12), none, none⟩,
     ⟨(some 14), .bin .lss (.t 11) (.t 13), none, none⟩])
    (.cond (.t 14) .skip (.exit 0)))
    (.seq (.block 1 (.seq (.reg (some []) [
      ⟨(some 17), .mv (.t 0), none, none⟩,
      ⟨(some 18), .mv (.t 5), none, none⟩,
      ⟨(some 19), .idxA 1 (.t 17) (.t 18), none, none⟩,
      ⟨(some 20), .load none (.t 19), none, none⟩,
      ⟨(some 21), .mv (.t 1), none, none⟩,
      ⟨(some 22), .mv (.t 5), none, none⟩,
      ⟨(some 23), .idxA 1 (.t 21) (.t 22), none, none⟩,
      ⟨(some 24), .load none (.t 23), none, none⟩,
      ⟨(some 25), .mv (.c .junk), none, (some ((.c (.clo f_caesuraref01_Ints [] [])), [(.t 20), (.t 24)]))⟩,
      ⟨(some 26), .un .not (.t 25), none, none⟩])
     (.cond (.t 26) (.seq (.reg none [
       ⟨(some 4), .mv (.c (.v (.bool false))), none, none⟩])
      .ret) .skip)))
    (.reg none [
     ⟨(some 15), .mv (.t 5), none, none⟩,
     ⟨(some 16), .bin .add (.t 15) (.c (.v (.int .i64 1))), none, none⟩,
     ⟨(some 5), .mv (.t 16), none, none⟩]))))))
  (.seq (.reg none [
   ⟨(some 4), .mv (.c (.v (.bool true))), none, none⟩])
  .ret))))
def c_net_set (f_slices_Clone_Sint_int_ f_slices_Sort_Sint_int_ f_slices_Compact_Sint_int_ : FuncId) : AC :=
  (.seq (.reg none [
   ⟨(some 2), .mv (.c (.sl true [])), none, none⟩])
  (.seq (.reg none [
   ⟨(some 3), .mv (.t 0), none, none⟩,
   ⟨(some 4), .mv (.c .junk), none, (some ((.c (.clo f_slices_Clone_Sint_int_ [] [])), [(.t 3)]))⟩,
   ⟨(some 0), .mv (.t 4), none, none⟩])
  (.seq (.reg none [
   ⟨(some 5), .mv (.t 0), none, none⟩,
   ⟨(some 6), .mv (.c .junk), none, (some ((.c (.clo f_slices_Sort_Sint_int_ [] [])), [(.t 5)]))⟩])
  (.seq (.reg none [
   ⟨(some 7), .mv (.t 0), none, none⟩,
   ⟨(some 8), .mv (.c .junk), none, (some ((.c (.clo f_slices_Compact_Sint_int_ [] [])), [(.t 7)]))⟩,
   ⟨(some 2), .mv (.t 8), none, none⟩])
  .ret))))
def c_net_lies (f_net_set f_slices_Equal_Sint_int_ : FuncId) : AC :=
  (.seq (.reg none [
   ⟨(some 6), .mv (.c (.v (.bool false))), none, none⟩])
  (.seq (.reg none [
   ⟨(some 7), .mv (.t 0), none, none⟩,
   ⟨(some 8), .len (.t 7), none, none⟩,
   ⟨(some 9), .bin .eql (.t 8) (.c (.v (.int .i64 0))), none, none⟩,
   ⟨(some 10), .mv (.t 9), none, none⟩,
   ⟨(some 11), .mv (.t 0), (some (10, false)), none⟩,
   ⟨(some 12), .idxA 1 (.t 11) (.c (.v (.int .i64 0))), (some (10, false)), none⟩,
   ⟨(some 13), .load none (.t 12), (some (10, false)), none⟩,
   ⟨(some 14), .mv (.t 1), (some (10, false)), none⟩,
   ⟨(some 15), .bin .geq (.t 13) (.t 14), (some (10, false)), none⟩,
   ⟨(some 16), .mv (.t 15), (some (10, false)), none⟩,
   ⟨(some 17), .mv (.t 0), (some (16, true)), none⟩,
   ⟨(some 18), .mv (.t 0), (some (16, true)), none⟩,
   ⟨(some 19), .len (.t 18), (some (16, true)), none⟩,
   ⟨(some 20), .bin .sub (.t 19) (.c (.v (.int .i64 1))), (some (16, true)), none⟩,
   ⟨(some 21), .idxA 1 (.t 17) (.t 20), (some (16, true)), none⟩,
   ⟨(some 22), .load none (.t 21), (some (16, true)), none⟩,
   ⟨(some 23), .mv (.t 2), (some (16, true)), none⟩,
   ⟨(some 24), .bin .lss (.t 22) (.t 23), (some (16, true)), none⟩,
   ⟨(some 25), .pick (.t 16) (.t 24) (.c (.v (.bool false))), (some (10, false)), none⟩,
   ⟨(some 26), .mv (.t 25), (some (10, false)), none⟩,
   ⟨(some 27), .mv (.t 0), (some (26, true)), none⟩,
   ⟨(some 28), .mv (.t 0), (some (26, true)), none⟩,
   ⟨(some 29), .mv (.c .junk), (some (26, true)), (some ((.c (.clo f_net_set [] [])), [(.t 28)]))⟩,
   ⟨(some 30), .mv (.c .junk), (some (26, true)), (some ((.c (.clo f_slices_Equal_Sint_int_ [] [])), [(.t 27), (.t 29)]))⟩,
   ⟨(some 31), .pick (.t 26) (.t 30) (.c (.v (.bool false))), (some (10, false)), none⟩,
   ⟨(some 32), .pick (.t 10) (.c (.v (.bool true))) (.t 31), none, none⟩,
   ⟨(some 6), .mv (.t 32), none, none⟩])
  .ret))
def c_caesuraref13_rising : AC :=
  (.seq (.reg none [
   ⟨(some 6), .mv (.c (.v (.bool false))), none, none⟩])
  (.seq (.seq (.reg none [
   ⟨(some 7), .mv (.c (.v (.int .i64 0))), none, none⟩])
  (.block 0 (.loop (.seq (.seq (.reg none [
     ⟨(some 8), .mv (.t 7), none, none⟩,
     ⟨(some 9), .mv (.t 0), none, none⟩,
     ⟨(some 10), .len (.t 9), none, none⟩,
     ⟨(some 11), .bin .lss (.t 8) (.t 10), none, none⟩])
    (.cond (.t 11) .skip (.exit 0)))
    (.seq (.block 1 (.seq (.reg (some []) [
      ⟨(some 14), .mv (.t 0), none, none⟩,
      ⟨(some 15), .mv (.t 7), none, none⟩,
      ⟨(some 16), .idxA 1 (.t 14) (.t 15), none, none⟩,
      ⟨(some 17), .load none (.t 16), none, none⟩,
      ⟨(some 18), .mv (.t 1), none, none⟩,
      ⟨(some 19), .bin .lss (.t 17) (.t 18), none, none⟩,
      ⟨(some 20), .mv (.t 19), none, none⟩,
      ⟨(some 21), .mv (.t 0), (some (20, false)), none⟩,
      ⟨(some 22), .mv (.t 7), (some (20, false)), none⟩,
      ⟨(some 23), .idxA 1 (.t 21) (.t 22), (some (20, false)), none⟩,
      ⟨(some 24), .load none (.t 23), (some (20, false)), none⟩,
      ⟨(some 25), .mv (.t 2), (some (20, false)), none⟩,
      ⟨(some 26), .bin .geq (.t 24) (.t 25), (some (20, false)), none⟩,
      ⟨(some 27), .pick (.t 20) (.c (.v (.bool true))) (.t 26), none, none⟩,
      ⟨(some 28), .mv (.t 27), none, none⟩,
      ⟨(some 29), .mv (.t 7), (some (28, false)), none⟩,
      ⟨(some 30), .bin .gtr (.t 29) (.c (.v (.int .i64 0))), (some (28, false)), none⟩,
      ⟨(some 31), .mv (.t 30), (some (28, false)), none⟩,
      ⟨(some 32), .mv (.t 0), (some (31, true)), none⟩,
      ⟨(some 33), .mv (.t 7), (some (31, true)), none⟩,
      ⟨(some 34), .bin .sub (.t 33) (.c (.v (.int .i64 1))), (some (31, true)), none⟩,
      ⟨(some 35), .idxA 1 (.t 32) (.t 34), (some (31, true)), none⟩,
      ⟨(some 36), .load none (.t 35), (some (31, true)), none⟩,
      ⟨(some 37), .mv (.t 0), (some (31, true)), none⟩,
      ⟨(some 38), .mv (.t 7), (some (31, true)), none⟩,
      ⟨(some 39), .idxA 1 (.t 37) (.t 38), (some (31, true)), none⟩,
      ⟨(some 40), .load none (.t 39), (some (31, true)), none⟩,
      ⟨(some 41), .bin .geq (.t 36) (.t 40), (some (31, true)), none⟩,
      ⟨(some 42), .pick (.t 31) (.t 41) (.c (.v (.bool false))), (some (28, false)), none⟩,
      ⟨(some 43), .pick (.t 28) (.c (.v (.bool true))) (.t 42), none, none⟩])
     (.cond (.t 43) (.seq (.reg none [
       ⟨(some 6), .mv (.c (.v (.bool false))), none, none⟩])
      .ret) .skip)))
    (.reg none [
     ⟨(some 12), .mv (.t 7), none, none⟩,
     ⟨(some 13), .bin .add (.t 12) (.c (.v (.int .i64 1))), none, none⟩,
     ⟨(some 7), .mv (.t 13), none, none⟩]))))))
  (.seq (.reg none [
   ⟨(some 6), .mv (.c (.v (.bool true))), none, none⟩])
  .ret)))
theorem hasI_any (l : List Int) (x : Int) : l.any (fun y => x == y) = l.contains x := by
  rw [Bool.eq_iff_iff]; simp
def ixI (l : List Int) (x : Int) (i : Nat) (f : AF) (S : St) : Prop := f 8 = encI i ∧ f 7 = encI l.length ∧ f 0 = encIs l ∧ f 1 = encI x ∧ ∀ k (h : k < l.length), k < i → l[k] ≠ x
theorem slices_Index_body {P : Program} (l : List Int) (x : Int) (hl : Len l) : AW P c_slices_Index_Sint_int_ (RetK [4] (FzK (encI (idxF (fun y => x == y) l)))) (argF [encIs l, encI x]) S0 := by
  unfold Len at hl
  simp [Z0h, Z0c, Z0d, Z09, Z0a, Z0i, Z0b, Z0f, Z0g, Z2z, Z2y, Z07, Z08, Z06, Z01, Z02, Z00, Z04, Z05, Z03, Z1z, Z1y, Z46, Z48, Z47, Z45, Z1n, Z1o, Z1m, Z3n, Z3k, Z3m, Z3l, Z3o, Z1l, Z29, Z32, Z3x, Z1i, Z1j, Z1k, Z3v, Z3w, Z1g, Z28, Z1h, Z3i, Z3f, Z3h, Z3g, Z3j, Z41, Z40, Z0t, Z0u, Z0v, Z0s, Z1f, Z4c, Z4b, Z4d, Z4a, Z49, ex, Z43, Z42, ev_t, ev_c, Z27, Z26, Z4e, Z4f, Z2m, Z2l, Z2f, Z2j, Z2k, Z2g, Z2h, Z2i, putc, exBslice, lfill, exField, exIdxV, exIdxP, exBox, exAlloc, exLoad, exStore, exFieldA, exIdxA, exLen, exPick, exUn, exBeq, exMM, exSeq, seqGo, exExt, binV, intOp, subc, AV.solid, S0, encI, encB, c_slices_Index_Sint_int_, encIs]
  refine AW_for l.length (ixI l x) ?_ ?_
  · refine ⟨?_, ?_, ?_, ?_, by omega⟩ <;> simp [Z43, Z27, Z26, encI, encIs]
  · rintro i f S hi ⟨e8, e7, e0, e1, hq⟩
    by_cases hlt : i < l.length
    · by_cases hb : x = l[i]
      · have hi2 : idxF (fun y => x == y) l = i := by
          have h1 : l.any (fun y => x == y) = true := List.any_eq_true.mpr ⟨_, List.getElem_mem hlt, by simp [hb]⟩
          have h2 : l.findIdx (fun y => x == y) = i := (List.findIdx_eq hlt).mpr ⟨by simp [hb], fun j hj => by have := hq j (by omega) hj; simp; exact fun e => this e.symm⟩
          simp [idxF, h1, h2]
        have hb2 : (x == l[i]) = true := by simp [hb]
        simp [Z0h, Z0c, Z0d, Z09, Z0a, Z0i, Z0b, Z0f, Z0g, Z2z, Z2y, Z07, Z08, Z06, Z01, Z02, Z00, Z04, Z05, Z03, Z1z, Z1y, Z46, Z48, Z47, Z45, Z1n, Z1o, Z1m, Z3n, Z3k, Z3m, Z3l, Z3o, Z1l, Z29, Z32, Z3x, Z1i, Z1j, Z1k, Z3v, Z3w, Z1g, Z28, Z1h, Z3i, Z3f, Z3h, Z3g, Z3j, Z41, Z40, Z0t, Z0u, Z0v, Z0s, Z1f, Z4c, Z4b, Z4d, Z4a, Z49, ex, Z43, Z42, ev_t, ev_c, Z27, Z26, Z4e, Z4f, Z2m, Z2l, Z2f, Z2j, Z2k, Z2g, Z2h, Z2i, putc, exBslice, lfill, exField, exIdxV, exIdxP, exBox, exAlloc, exLoad, exStore, exFieldA, exIdxA, exLen, exPick, exUn, exBeq, exMM, exSeq, seqGo, exExt, binV, intOp, subc, AV.solid, S0, encI, encB, e8, e7, e0, e1, hlt, encIs, hb2]
        simp [Z43, e8, encI, hi2]
        exact FzK_I _ _
      · have hb2 : (x == l[i]) = false := by simp [hb]
        simp [Z0h, Z0c, Z0d, Z09, Z0a, Z0i, Z0b, Z0f, Z0g, Z2z, Z2y, Z07, Z08, Z06, Z01, Z02, Z00, Z04, Z05, Z03, Z1z, Z1y, Z46, Z48, Z47, Z45, Z1n, Z1o, Z1m, Z3n, Z3k, Z3m, Z3l, Z3o, Z1l, Z29, Z32, Z3x, Z1i, Z1j, Z1k, Z3v, Z3w, Z1g, Z28, Z1h, Z3i, Z3f, Z3h, Z3g, Z3j, Z41, Z40, Z0t, Z0u, Z0v, Z0s, Z1f, Z4c, Z4b, Z4d, Z4a, Z49, ex, Z43, Z42, ev_t, ev_c, Z27, Z26, Z4e, Z4f, Z2m, Z2l, Z2f, Z2j, Z2k, Z2g, Z2h, Z2i, putc, exBslice, lfill, exField, exIdxV, exIdxP, exBox, exAlloc, exLoad, exStore, exFieldA, exIdxA, exLen, exPick, exUn, exBeq, exMM, exSeq, seqGo, exExt, binV, intOp, subc, AV.solid, S0, encI, encB, e8, e7, e0, e1, hlt, encIs, hb2]
        rw [wrap_in _ (by omega)]
        refine ⟨hlt, ?_, ?_, ?_, ?_, fun k h hk => ?_⟩
        · simp [Z43, encI]
        · simp [Z43, e7]
        · simp [Z43, e0]
        · simp [Z43, e1]
        · by_cases hki : k = i
          · subst hki; exact fun e => hb e.symm
          · exact hq k h (by omega)
    · have hi2 : idxF (fun y => x == y) l = -1 := by
        have h1 : l.any (fun y => x == y) = false := by
          rw [List.any_eq_false]
          intro y hy
          obtain ⟨k, hk, rfl⟩ := List.mem_iff_getElem.mp hy
          have := hq k hk (by omega)
          simp; exact fun e => this e.symm
        simp [idxF, h1]
      simp [Z0h, Z0c, Z0d, Z09, Z0a, Z0i, Z0b, Z0f, Z0g, Z2z, Z2y, Z07, Z08, Z06, Z01, Z02, Z00, Z04, Z05, Z03, Z1z, Z1y, Z46, Z48, Z47, Z45, Z1n, Z1o, Z1m, Z3n, Z3k, Z3m, Z3l, Z3o, Z1l, Z29, Z32, Z3x, Z1i, Z1j, Z1k, Z3v, Z3w, Z1g, Z28, Z1h, Z3i, Z3f, Z3h, Z3g, Z3j, Z41, Z40, Z0t, Z0u, Z0v, Z0s, Z1f, Z4c, Z4b, Z4d, Z4a, Z49, ex, Z43, Z42, ev_t, ev_c, Z27, Z26, Z4e, Z4f, Z2m, Z2l, Z2f, Z2j, Z2k, Z2g, Z2h, Z2i, putc, exBslice, lfill, exField, exIdxV, exIdxP, exBox, exAlloc, exLoad, exStore, exFieldA, exIdxA, exLen, exPick, exUn, exBeq, exMM, exSeq, seqGo, exExt, binV, intOp, subc, AV.solid, S0, encI, encB, e8, e7, e0, e1, hlt, encIs, hi2]
      exact FzK_I _ _
theorem slices_Contains_body {P : Program} {fi : FuncId} (l : List Int) (x : Int) (h : PureC P fi [encIs l, encI x] (encI (idxF (fun y => x == y) l))) : AW P (c_slices_Contains_Sint_int_ fi) (RetK [4] (FzK (encB (l.contains x)))) (argF [encIs l, encI x]) S0 := by
  simp [Z0h, Z0c, Z0d, Z09, Z0a, Z0i, Z0b, Z0f, Z0g, Z2z, Z2y, Z07, Z08, Z06, Z01, Z02, Z00, Z04, Z05, Z03, Z1z, Z1y, Z46, Z48, Z47, Z45, Z1n, Z1o, Z1m, Z3n, Z3k, Z3m, Z3l, Z3o, Z1l, Z29, Z32, Z3x, Z1i, Z1j, Z1k, Z3v, Z3w, Z1g, Z28, Z1h, Z3i, Z3f, Z3h, Z3g, Z3j, Z41, Z40, Z0t, Z0u, Z0v, Z0s, Z1f, Z4c, Z4b, Z4d, Z4a, Z49, ex, Z43, Z42, ev_t, ev_c, Z27, Z26, Z4e, Z4f, Z2m, Z2l, Z2f, Z2j, Z2k, Z2g, Z2h, Z2i, putc, exBslice, lfill, exField, exIdxV, exIdxP, exBox, exAlloc, exLoad, exStore, exFieldA, exIdxA, exLen, exPick, exUn, exBeq, exMM, exSeq, seqGo, exExt, binV, intOp, subc, AV.solid, S0, encI, encB, c_slices_Contains_Sint_int_]
  refine CallR.pure h (cl_cons (Z2s _) (cl_cons (Z2r _) cl_nil)) (Z2r _) ?_
  simp [Z0h, Z0c, Z0d, Z09, Z0a, Z0i, Z0b, Z0f, Z0g, Z2z, Z2y, Z07, Z08, Z06, Z01, Z02, Z00, Z04, Z05, Z03, Z1z, Z1y, Z46, Z48, Z47, Z45, Z1n, Z1o, Z1m, Z3n, Z3k, Z3m, Z3l, Z3o, Z1l, Z29, Z32, Z3x, Z1i, Z1j, Z1k, Z3v, Z3w, Z1g, Z28, Z1h, Z3i, Z3f, Z3h, Z3g, Z3j, Z41, Z40, Z0t, Z0u, Z0v, Z0s, Z1f, Z4c, Z4b, Z4d, Z4a, Z49, ex, Z43, Z42, ev_t, ev_c, Z27, Z26, Z4e, Z4f, Z2m, Z2l, Z2f, Z2j, Z2k, Z2g, Z2h, Z2i, putc, exBslice, lfill, exField, exIdxV, exIdxP, exBox, exAlloc, exLoad, exStore, exFieldA, exIdxA, exLen, exPick, exUn, exBeq, exMM, exSeq, seqGo, exExt, binV, intOp, subc, AV.solid, S0, encI, encB]
  have e : decide (x ∈ l) = decide (0 ≤ idxF (fun y => x == y) l) := by rw [idxF_nonneg, hasI_any]; simp
  rw [e]
  exact FzK_B _ _
def haI13 (l : List Int) (x : Int) (i : Nat) (f : AF) (S : St) : Prop := f 5 = encI i ∧ f 0 = encIs l ∧ f 1 = encI x ∧ ∀ k (h : k < l.length), k < i → l[k] ≠ x
theorem has13_body {P : Program} (l : List Int) (x : Int) (hl : Len l) : AW P c_caesuraref13_has (RetK [4] (FzK (encB (l.contains x)))) (argF [encIs l, encI x]) S0 := by
  unfold Len at hl
  simp [Z0h, Z0c, Z0d, Z09, Z0a, Z0i, Z0b, Z0f, Z0g, Z2z, Z2y, Z07, Z08, Z06, Z01, Z02, Z00, Z04, Z05, Z03, Z1z, Z1y, Z46, Z48, Z47, Z45, Z1n, Z1o, Z1m, Z3n, Z3k, Z3m, Z3l, Z3o, Z1l, Z29, Z32, Z3x, Z1i, Z1j, Z1k, Z3v, Z3w, Z1g, Z28, Z1h, Z3i, Z3f, Z3h, Z3g, Z3j, Z41, Z40, Z0t, Z0u, Z0v, Z0s, Z1f, Z4c, Z4b, Z4d, Z4a, Z49, ex, Z43, Z42, ev_t, ev_c, Z27, Z26, Z4e, Z4f, Z2m, Z2l, Z2f, Z2j, Z2k, Z2g, Z2h, Z2i, putc, exBslice, lfill, exField, exIdxV, exIdxP, exBox, exAlloc, exLoad, exStore, exFieldA, exIdxA, exLen, exPick, exUn, exBeq, exMM, exSeq, seqGo, exExt, binV, intOp, subc, AV.solid, S0, encI, encB, c_caesuraref13_has, encIs]
  refine AW_for l.length (haI13 l x) ?_ ?_
  · refine ⟨?_, ?_, ?_, by omega⟩ <;> simp [Z43, Z27, Z26, encI, encIs]
  · rintro i f S hi ⟨e5, e0, e1, hq⟩
    by_cases hlt : i < l.length
    · by_cases hb : l[i] = x
      · have h1 : x ∈ l := by rw [← hb]; exact List.getElem_mem hlt
        have hb2 : (l[i] == x) = true := by simp [hb]
        simp [Z0h, Z0c, Z0d, Z09, Z0a, Z0i, Z0b, Z0f, Z0g, Z2z, Z2y, Z07, Z08, Z06, Z01, Z02, Z00, Z04, Z05, Z03, Z1z, Z1y, Z46, Z48, Z47, Z45, Z1n, Z1o, Z1m, Z3n, Z3k, Z3m, Z3l, Z3o, Z1l, Z29, Z32, Z3x, Z1i, Z1j, Z1k, Z3v, Z3w, Z1g, Z28, Z1h, Z3i, Z3f, Z3h, Z3g, Z3j, Z41, Z40, Z0t, Z0u, Z0v, Z0s, Z1f, Z4c, Z4b, Z4d, Z4a, Z49, ex, Z43, Z42, ev_t, ev_c, Z27, Z26, Z4e, Z4f, Z2m, Z2l, Z2f, Z2j, Z2k, Z2g, Z2h, Z2i, putc, exBslice, lfill, exField, exIdxV, exIdxP, exBox, exAlloc, exLoad, exStore, exFieldA, exIdxA, exLen, exPick, exUn, exBeq, exMM, exSeq, seqGo, exExt, binV, intOp, subc, AV.solid, S0, encI, encB, e5, e0, e1, hlt, encIs, hb2, h1]
        exact FzK_B _ _
      · have hb2 : (l[i] == x) = false := by simp [hb]
        simp [Z0h, Z0c, Z0d, Z09, Z0a, Z0i, Z0b, Z0f, Z0g, Z2z, Z2y, Z07, Z08, Z06, Z01, Z02, Z00, Z04, Z05, Z03, Z1z, Z1y, Z46, Z48, Z47, Z45, Z1n, Z1o, Z1m, Z3n, Z3k, Z3m, Z3l, Z3o, Z1l, Z29, Z32, Z3x, Z1i, Z1j, Z1k, Z3v, Z3w, Z1g, Z28, Z1h, Z3i, Z3f, Z3h, Z3g, Z3j, Z41, Z40, Z0t, Z0u, Z0v, Z0s, Z1f, Z4c, Z4b, Z4d, Z4a, Z49, ex, Z43, Z42, ev_t, ev_c, Z27, Z26, Z4e, Z4f, Z2m, Z2l, Z2f, Z2j, Z2k, Z2g, Z2h, Z2i, putc, exBslice, lfill, exField, exIdxV, exIdxP, exBox, exAlloc, exLoad, exStore, exFieldA, exIdxA, exLen, exPick, exUn, exBeq, exMM, exSeq, seqGo, exExt, binV, intOp, subc, AV.solid, S0, encI, encB, e5, e0, e1, hlt, encIs, hb2]
        rw [wrap_in _ (by omega)]
        refine ⟨hlt, ?_, ?_, ?_, fun k h hk => ?_⟩
        · simp [Z43, encI]
        · simp [Z43, e0, encIs]
        · simp [Z43, e1]
        · by_cases hki : k = i
          · subst hki; exact hb
          · exact hq k h (by omega)
    · have h1 : x ∉ l := by
        intro hy
        obtain ⟨k, hk, rfl⟩ := List.mem_iff_getElem.mp hy
        exact hq k hk (by omega) rfl
      simp [Z0h, Z0c, Z0d, Z09, Z0a, Z0i, Z0b, Z0f, Z0g, Z2z, Z2y, Z07, Z08, Z06, Z01, Z02, Z00, Z04, Z05, Z03, Z1z, Z1y, Z46, Z48, Z47, Z45, Z1n, Z1o, Z1m, Z3n, Z3k, Z3m, Z3l, Z3o, Z1l, Z29, Z32, Z3x, Z1i, Z1j, Z1k, Z3v, Z3w, Z1g, Z28, Z1h, Z3i, Z3f, Z3h, Z3g, Z3j, Z41, Z40, Z0t, Z0u, Z0v, Z0s, Z1f, Z4c, Z4b, Z4d, Z4a, Z49, ex, Z43, Z42, ev_t, ev_c, Z27, Z26, Z4e, Z4f, Z2m, Z2l, Z2f, Z2j, Z2k, Z2g, Z2h, Z2i, putc, exBslice, lfill, exField, exIdxV, exIdxP, exBox, exAlloc, exLoad, exStore, exFieldA, exIdxA, exLen, exPick, exUn, exBeq, exMM, exSeq, seqGo, exExt, binV, intOp, subc, AV.solid, S0, encI, encB, e5, e0, e1, hlt, encIs, h1]
      exact FzK_B _ _
def eqI (a b : List Int) (i : Nat) (f : AF) (S : St) : Prop := f 13 = encI i ∧ f 12 = encI a.length ∧ f 0 = encIs a ∧ f 1 = encIs b ∧ a.take i = b.take i
theorem slices_Equal_body {P : Program} (a b : List Int) (ha : Len a) (hb : Len b) : AW P c_slices_Equal_Sint_int_ (RetK [4] (FzK (encB (a == b)))) (argF [encIs a, encIs b]) S0 := by
  unfold Len at ha hb
  by_cases hl : a.length = b.length
  · simp [Z0h, Z0c, Z0d, Z09, Z0a, Z0i, Z0b, Z0f, Z0g, Z2z, Z2y, Z07, Z08, Z06, Z01, Z02, Z00, Z04, Z05, Z03, Z1z, Z1y, Z46, Z48, Z47, Z45, Z1n, Z1o, Z1m, Z3n, Z3k, Z3m, Z3l, Z3o, Z1l, Z29, Z32, Z3x, Z1i, Z1j, Z1k, Z3v, Z3w, Z1g, Z28, Z1h, Z3i, Z3f, Z3h, Z3g, Z3j, Z41, Z40, Z0t, Z0u, Z0v, Z0s, Z1f, Z4c, Z4b, Z4d, Z4a, Z49, ex, Z43, Z42, ev_t, ev_c, Z27, Z26, Z4e, Z4f, Z2m, Z2l, Z2f, Z2j, Z2k, Z2g, Z2h, Z2i, putc, exBslice, lfill, exField, exIdxV, exIdxP, exBox, exAlloc, exLoad, exStore, exFieldA, exIdxA, exLen, exPick, exUn, exBeq, exMM, exSeq, seqGo, exExt, binV, intOp, subc, AV.solid, S0, encI, encB, c_slices_Equal_Sint_int_, encIs, hl]
    refine AW_for a.length (eqI a b) ?_ ?_
    · refine ⟨?_, ?_, ?_, ?_, ?_⟩ <;> simp [Z43, Z27, Z26, encI, encIs, hl]
    · rintro i f S hi ⟨e13, e12, e0, e1, hp⟩
      by_cases hlt : i < a.length
      · have hlb : i < b.length := by omega
        by_cases he : a[i] = b[i]
        · simp [Z0h, Z0c, Z0d, Z09, Z0a, Z0i, Z0b, Z0f, Z0g, Z2z, Z2y, Z07, Z08, Z06, Z01, Z02, Z00, Z04, Z05, Z03, Z1z, Z1y, Z46, Z48, Z47, Z45, Z1n, Z1o, Z1m, Z3n, Z3k, Z3m, Z3l, Z3o, Z1l, Z29, Z32, Z3x, Z1i, Z1j, Z1k, Z3v, Z3w, Z1g, Z28, Z1h, Z3i, Z3f, Z3h, Z3g, Z3j, Z41, Z40, Z0t, Z0u, Z0v, Z0s, Z1f, Z4c, Z4b, Z4d, Z4a, Z49, ex, Z43, Z42, ev_t, ev_c, Z27, Z26, Z4e, Z4f, Z2m, Z2l, Z2f, Z2j, Z2k, Z2g, Z2h, Z2i, putc, exBslice, lfill, exField, exIdxV, exIdxP, exBox, exAlloc, exLoad, exStore, exFieldA, exIdxA, exLen, exPick, exUn, exBeq, exMM, exSeq, seqGo, exExt, binV, intOp, subc, AV.solid, S0, encI, encB, e13, e12, e0, e1, encIs, hlt, hlb, he]
          rw [wrap_in _ (by omega)]
          refine ⟨hlt, ?_, ?_, ?_, ?_, ?_⟩ <;> try simp [Z43, e12, e0, e1, encI, encIs]
          rw [List.take_add_one, List.take_add_one, hp, List.getElem?_eq_getElem hlt, List.getElem?_eq_getElem hlb, he]
        · have hr : (a == b) = false := beq_false_of_ne (by rintro rfl; exact he rfl)
          have hc : (a[i] != b[i]) = true := by simp [he]
          simp [Z0h, Z0c, Z0d, Z09, Z0a, Z0i, Z0b, Z0f, Z0g, Z2z, Z2y, Z07, Z08, Z06, Z01, Z02, Z00, Z04, Z05, Z03, Z1z, Z1y, Z46, Z48, Z47, Z45, Z1n, Z1o, Z1m, Z3n, Z3k, Z3m, Z3l, Z3o, Z1l, Z29, Z32, Z3x, Z1i, Z1j, Z1k, Z3v, Z3w, Z1g, Z28, Z1h, Z3i, Z3f, Z3h, Z3g, Z3j, Z41, Z40, Z0t, Z0u, Z0v, Z0s, Z1f, Z4c, Z4b, Z4d, Z4a, Z49, ex, Z43, Z42, ev_t, ev_c, Z27, Z26, Z4e, Z4f, Z2m, Z2l, Z2f, Z2j, Z2k, Z2g, Z2h, Z2i, putc, exBslice, lfill, exField, exIdxV, exIdxP, exBox, exAlloc, exLoad, exStore, exFieldA, exIdxA, exLen, exPick, exUn, exBeq, exMM, exSeq, seqGo, exExt, binV, intOp, subc, AV.solid, S0, encI, encB, e13, e12, e0, e1, encIs, hlt, hlb, hc, hr]
          exact FzK_B false _
      · have hab : a = b := by
          rw [List.take_of_length_le (by omega), List.take_of_length_le (by omega)] at hp; exact hp
        have hr : (a == b) = true := by simp [hab]
        simp [Z0h, Z0c, Z0d, Z09, Z0a, Z0i, Z0b, Z0f, Z0g, Z2z, Z2y, Z07, Z08, Z06, Z01, Z02, Z00, Z04, Z05, Z03, Z1z, Z1y, Z46, Z48, Z47, Z45, Z1n, Z1o, Z1m, Z3n, Z3k, Z3m, Z3l, Z3o, Z1l, Z29, Z32, Z3x, Z1i, Z1j, Z1k, Z3v, Z3w, Z1g, Z28, Z1h, Z3i, Z3f, Z3h, Z3g, Z3j, Z41, Z40, Z0t, Z0u, Z0v, Z0s, Z1f, Z4c, Z4b, Z4d, Z4a, Z49, ex, Z43, Z42, ev_t, ev_c, Z27, Z26, Z4e, Z4f, Z2m, Z2l, Z2f, Z2j, Z2k, Z2g, Z2h, Z2i, putc, exBslice, lfill, exField, exIdxV, exIdxP, exBox, exAlloc, exLoad, exStore, exFieldA, exIdxA, exLen, exPick, exUn, exBeq, exMM, exSeq, seqGo, exExt, binV, intOp, subc, AV.solid, S0, encI, encB, e13, e12, e0, e1, encIs, hlt, hr]
        exact FzK_B true _
  · have hr : (a == b) = false := beq_false_of_ne (by rintro rfl; exact hl rfl)
    have hc : ((a.length : Int) != b.length) = true := by simp; omega
    simp [Z0h, Z0c, Z0d, Z09, Z0a, Z0i, Z0b, Z0f, Z0g, Z2z, Z2y, Z07, Z08, Z06, Z01, Z02, Z00, Z04, Z05, Z03, Z1z, Z1y, Z46, Z48, Z47, Z45, Z1n, Z1o, Z1m, Z3n, Z3k, Z3m, Z3l, Z3o, Z1l, Z29, Z32, Z3x, Z1i, Z1j, Z1k, Z3v, Z3w, Z1g, Z28, Z1h, Z3i, Z3f, Z3h, Z3g, Z3j, Z41, Z40, Z0t, Z0u, Z0v, Z0s, Z1f, Z4c, Z4b, Z4d, Z4a, Z49, ex, Z43, Z42, ev_t, ev_c, Z27, Z26, Z4e, Z4f, Z2m, Z2l, Z2f, Z2j, Z2k, Z2g, Z2h, Z2i, putc, exBslice, lfill, exField, exIdxV, exIdxP, exBox, exAlloc, exLoad, exStore, exFieldA, exIdxA, exLen, exPick, exUn, exBeq, exMM, exSeq, seqGo, exExt, binV, intOp, subc, AV.solid, S0, encI, encB, c_slices_Equal_Sint_int_, encIs, hc, hr]
    exact FzK_B false _
def liI (a b : List (List Int)) (i : Nat) (f : AF) (S : St) : Prop := f 5 = encI i ∧ f 0 = encIss a ∧ f 1 = encIss b ∧ a.take i = b.take i
theorem Lists13_body {P : Program} {g : FuncId} (a b : List (List Int)) (ha : Len a) (hb : Len b) (h : ∀ x ∈ a, ∀ y ∈ b, PureC P g [encIs x, encIs y] (encB (x == y))) : AW P (c_caesuraref13_Lists g) (RetK [4] (FzK (encB (a == b)))) (argF [encIss a, encIss b]) S0 := by
  unfold Len at ha hb
  by_cases hl : a.length = b.length
  · simp [Z0h, Z0c, Z0d, Z09, Z0a, Z0i, Z0b, Z0f, Z0g, Z2z, Z2y, Z07, Z08, Z06, Z01, Z02, Z00, Z04, Z05, Z03, Z1z, Z1y, Z46, Z48, Z47, Z45, Z1n, Z1o, Z1m, Z3n, Z3k, Z3m, Z3l, Z3o, Z1l, Z29, Z32, Z3x, Z1i, Z1j, Z1k, Z3v, Z3w, Z1g, Z28, Z1h, Z3i, Z3f, Z3h, Z3g, Z3j, Z41, Z40, Z0t, Z0u, Z0v, Z0s, Z1f, Z4c, Z4b, Z4d, Z4a, Z49, ex, Z43, Z42, ev_t, ev_c, Z27, Z26, Z4e, Z4f, Z2m, Z2l, Z2f, Z2j, Z2k, Z2g, Z2h, Z2i, putc, exBslice, lfill, exField, exIdxV, exIdxP, exBox, exAlloc, exLoad, exStore, exFieldA, exIdxA, exLen, exPick, exUn, exBeq, exMM, exSeq, seqGo, exExt, binV, intOp, subc, AV.solid, S0, encI, encB, c_caesuraref13_Lists, encIss, hl]
    refine AW_for a.length (liI a b) ?_ ?_
    · refine ⟨?_, ?_, ?_, ?_⟩ <;> simp [Z43, Z27, Z26, encI, encIss]
    · rintro i f S hi ⟨e5, e0, e1, hp⟩
      by_cases hlt : i < a.length
      · have hlb : i < b.length := by omega
        have hh := h a[i] (List.getElem_mem hlt) b[i] (List.getElem_mem hlb)
        have hcl := cl_cons (Z2s a[i]) (cl_cons (Z2s b[i]) cl_nil)
        simp only [encIs] at hh hcl
        have hd : ∀ n g', CallD P g [.sl false ((a[i]).map encI), .sl false ((b[i]).map encI)] ⟨n, g'⟩ [] (encB (a[i] == b[i])) := fun n g' => CallD.kl hh hcl (Z2o _)
        simp [Z0h, Z0c, Z0d, Z09, Z0a, Z0i, Z0b, Z0f, Z0g, Z2z, Z2y, Z07, Z08, Z06, Z01, Z02, Z00, Z04, Z05, Z03, Z1z, Z1y, Z46, Z48, Z47, Z45, Z1n, Z1o, Z1m, Z3n, Z3k, Z3m, Z3l, Z3o, Z1l, Z29, Z32, Z3x, Z1i, Z1j, Z1k, Z3v, Z3w, Z1g, Z28, Z1h, Z3i, Z3f, Z3h, Z3g, Z3j, Z41, Z40, Z0t, Z0u, Z0v, Z0s, Z1f, Z4c, Z4b, Z4d, Z4a, Z49, ex, Z43, Z42, ev_t, ev_c, Z27, Z26, Z4e, Z4f, Z2m, Z2l, Z2f, Z2j, Z2k, Z2g, Z2h, Z2i, putc, exBslice, lfill, exField, exIdxV, exIdxP, exBox, exAlloc, exLoad, exStore, exFieldA, exIdxA, exLen, exPick, exUn, exBeq, exMM, exSeq, seqGo, exExt, binV, intOp, subc, AV.solid, S0, encI, encB, e5, e0, e1, encIss, hlt, hlb, encIs]
        refine ⟨_, ⟨_, hd _ _⟩, ?_⟩
        by_cases he : a[i] = b[i]
        · simp [Z0h, Z0c, Z0d, Z09, Z0a, Z0i, Z0b, Z0f, Z0g, Z2z, Z2y, Z07, Z08, Z06, Z01, Z02, Z00, Z04, Z05, Z03, Z1z, Z1y, Z46, Z48, Z47, Z45, Z1n, Z1o, Z1m, Z3n, Z3k, Z3m, Z3l, Z3o, Z1l, Z29, Z32, Z3x, Z1i, Z1j, Z1k, Z3v, Z3w, Z1g, Z28, Z1h, Z3i, Z3f, Z3h, Z3g, Z3j, Z41, Z40, Z0t, Z0u, Z0v, Z0s, Z1f, Z4c, Z4b, Z4d, Z4a, Z49, ex, Z43, Z42, ev_t, ev_c, Z27, Z26, Z4e, Z4f, Z2m, Z2l, Z2f, Z2j, Z2k, Z2g, Z2h, Z2i, putc, exBslice, lfill, exField, exIdxV, exIdxP, exBox, exAlloc, exLoad, exStore, exFieldA, exIdxA, exLen, exPick, exUn, exBeq, exMM, exSeq, seqGo, exExt, binV, intOp, subc, AV.solid, S0, encI, encB, e5, e0, e1, encIss, he]
          rw [wrap_in _ (by omega)]
          refine ⟨hlt, ?_, ?_, ?_, ?_⟩ <;> try simp [Z43, e0, e1, encI, encIss]
          rw [List.take_add_one, List.take_add_one, hp, List.getElem?_eq_getElem hlt, List.getElem?_eq_getElem hlb, he]
        · have hr : (a == b) = false := beq_false_of_ne (by rintro rfl; exact he rfl)
          have hc : (a[i] == b[i]) = false := by simp [he]
          simp [Z0h, Z0c, Z0d, Z09, Z0a, Z0i, Z0b, Z0f, Z0g, Z2z, Z2y, Z07, Z08, Z06, Z01, Z02, Z00, Z04, Z05, Z03, Z1z, Z1y, Z46, Z48, Z47, Z45, Z1n, Z1o, Z1m, Z3n, Z3k, Z3m, Z3l, Z3o, Z1l, Z29, Z32, Z3x, Z1i, Z1j, Z1k, Z3v, Z3w, Z1g, Z28, Z1h, Z3i, Z3f, Z3h, Z3g, Z3j, Z41, Z40, Z0t, Z0u, Z0v, Z0s, Z1f, Z4c, Z4b, Z4d, Z4a, Z49, ex, Z43, Z42, ev_t, ev_c, Z27, Z26, Z4e, Z4f, Z2m, Z2l, Z2f, Z2j, Z2k, Z2g, Z2h, Z2i, putc, exBslice, lfill, exField, exIdxV, exIdxP, exBox, exAlloc, exLoad, exStore, exFieldA, exIdxA, exLen, exPick, exUn, exBeq, exMM, exSeq, seqGo, exExt, binV, intOp, subc, AV.solid, S0, encI, encB, e5, e0, e1, encIss, hc, hr]
          exact FzK_B false _
      · have hab : a = b := by
          rw [List.take_of_length_le (by omega), List.take_of_length_le (by omega)] at hp; exact hp
        have hr : (a == b) = true := by simp [hab]
        simp [Z0h, Z0c, Z0d, Z09, Z0a, Z0i, Z0b, Z0f, Z0g, Z2z, Z2y, Z07, Z08, Z06, Z01, Z02, Z00, Z04, Z05, Z03, Z1z, Z1y, Z46, Z48, Z47, Z45, Z1n, Z1o, Z1m, Z3n, Z3k, Z3m, Z3l, Z3o, Z1l, Z29, Z32, Z3x, Z1i, Z1j, Z1k, Z3v, Z3w, Z1g, Z28, Z1h, Z3i, Z3f, Z3h, Z3g, Z3j, Z41, Z40, Z0t, Z0u, Z0v, Z0s, Z1f, Z4c, Z4b, Z4d, Z4a, Z49, ex, Z43, Z42, ev_t, ev_c, Z27, Z26, Z4e, Z4f, Z2m, Z2l, Z2f, Z2j, Z2k, Z2g, Z2h, Z2i, putc, exBslice, lfill, exField, exIdxV, exIdxP, exBox, exAlloc, exLoad, exStore, exFieldA, exIdxA, exLen, exPick, exUn, exBeq, exMM, exSeq, seqGo, exExt, binV, intOp, subc, AV.solid, S0, encI, encB, e5, e0, e1, encIss, hlt, hr]
        exact FzK_B true _
  · have hr : (a == b) = false := beq_false_of_ne (by rintro rfl; exact hl rfl)
    have hc : ((a.length : Int) != b.length) = true := by simp; omega
    simp [Z0h, Z0c, Z0d, Z09, Z0a, Z0i, Z0b, Z0f, Z0g, Z2z, Z2y, Z07, Z08, Z06, Z01, Z02, Z00, Z04, Z05, Z03, Z1z, Z1y, Z46, Z48, Z47, Z45, Z1n, Z1o, Z1m, Z3n, Z3k, Z3m, Z3l, Z3o, Z1l, Z29, Z32, Z3x, Z1i, Z1j, Z1k, Z3v, Z3w, Z1g, Z28, Z1h, Z3i, Z3f, Z3h, Z3g, Z3j, Z41, Z40, Z0t, Z0u, Z0v, Z0s, Z1f, Z4c, Z4b, Z4d, Z4a, Z49, ex, Z43, Z42, ev_t, ev_c, Z27, Z26, Z4e, Z4f, Z2m, Z2l, Z2f, Z2j, Z2k, Z2g, Z2h, Z2i, putc, exBslice, lfill, exField, exIdxV, exIdxP, exBox, exAlloc, exLoad, exStore, exFieldA, exIdxA, exLen, exPick, exUn, exBeq, exMM, exSeq, seqGo, exExt, binV, intOp, subc, AV.solid, S0, encI, encB, c_caesuraref13_Lists, encIss, hc, hr]
    exact FzK_B false _
/-! ### numbers, rising, each once -/
structure HSet (P : Program) (fc fs fm : FuncId) : Prop where
  clone : ByC P fc (c_cloneOv 1 8 (.v (.int .i64 0))) [.t 2] 1
  sort : HSort P fs
  comp : HComp P fm
  sort0 : PureC P fs [.sl true []] (.tup [])
  comp0 : PureC P fm [.sl true []] (.sl true [])
theorem net_set_body {P : Program} {fc fs fm : FuncId} (H : HSet P fc fs fm) (l : List Int) (hl : l.length ≤ 1000000) : AW P (c_net_set fc fs fm) (RetK [2] (FzK (encIs (setF l)))) (argF [encIs l]) S0 := by
  have hm : (l.mergeSort fun x y => decide (x ≤ y)).length = l.length := List.length_mergeSort _
  by_cases h0 : l = []
  · subst h0
    have hs0 : setF [] = [] := List.eq_nil_of_length_eq_zero (by have := setF_len []; simpa using this)
    rw [hs0]
    simp [Z0h, Z0c, Z0d, Z09, Z0a, Z0i, Z0b, Z0f, Z0g, Z2z, Z2y, Z07, Z08, Z06, Z01, Z02, Z00, Z04, Z05, Z03, Z1z, Z1y, Z46, Z48, Z47, Z45, Z1n, Z1o, Z1m, Z3n, Z3k, Z3m, Z3l, Z3o, Z1l, Z29, Z32, Z3x, Z1i, Z1j, Z1k, Z3v, Z3w, Z1g, Z28, Z1h, Z3i, Z3f, Z3h, Z3g, Z3j, Z41, Z40, Z0t, Z0u, Z0v, Z0s, Z1f, Z4c, Z4b, Z4d, Z4a, Z49, ex, Z43, Z42, ev_t, ev_c, Z27, Z26, Z4e, Z4f, Z2m, Z2l, Z2f, Z2j, Z2k, Z2g, Z2h, Z2i, putc, exBslice, lfill, exField, exIdxV, exIdxP, exBox, exAlloc, exLoad, exStore, exFieldA, exIdxA, exLen, exPick, exUn, exBeq, exMM, exSeq, seqGo, exExt, binV, intOp, subc, AV.solid, S0, encI, encB, c_net_set, encIs]
    refine H.clone rfl ?_
    have hb : exBslice 1 0 (.v (.int .i64 0)) [] = some (.sl true []) := exBslice_nil _ _
    have hr : ∀ n nid, (exApp 1 8 (.sl true []) (.sl false [])).run ⟨n, fun _ => none⟩ nid = some (.sl true [], ⟨n, fun _ => none⟩) := by
      intro n nid
      simp [exApp, lstE, AV.oid, Eff.run, St.setL, St.setO, appOk]
    simp [Z0h, Z0c, Z0d, Z09, Z0a, Z0i, Z0b, Z0f, Z0g, Z2z, Z2y, Z07, Z08, Z06, Z01, Z02, Z00, Z04, Z05, Z03, Z1z, Z1y, Z46, Z48, Z47, Z45, Z1n, Z1o, Z1m, Z3n, Z3k, Z3m, Z3l, Z3o, Z1l, Z29, Z32, Z3x, Z1i, Z1j, Z1k, Z3v, Z3w, Z1g, Z28, Z1h, Z3i, Z3f, Z3h, Z3g, Z3j, Z41, Z40, Z0t, Z0u, Z0v, Z0s, Z1f, Z4c, Z4b, Z4d, Z4a, Z49, ex, Z43, Z42, ev_t, ev_c, Z27, Z26, Z4e, Z4f, Z2m, Z2l, Z2f, Z2j, Z2k, Z2g, Z2h, Z2i, putc, exBslice, lfill, exField, exIdxV, exIdxP, exBox, exAlloc, exLoad, exStore, exFieldA, exIdxA, exLen, exPick, exUn, exBeq, exMM, exSeq, seqGo, exExt, binV, intOp, subc, AV.solid, S0, encI, encB, c_cloneOv, hb, hr]
    refine ⟨[.sl true []], by simp [evC, RV.ev, Z43], ?_⟩
    simp [Z0h, Z0c, Z0d, Z09, Z0a, Z0i, Z0b, Z0f, Z0g, Z2z, Z2y, Z07, Z08, Z06, Z01, Z02, Z00, Z04, Z05, Z03, Z1z, Z1y, Z46, Z48, Z47, Z45, Z1n, Z1o, Z1m, Z3n, Z3k, Z3m, Z3l, Z3o, Z1l, Z29, Z32, Z3x, Z1i, Z1j, Z1k, Z3v, Z3w, Z1g, Z28, Z1h, Z3i, Z3f, Z3h, Z3g, Z3j, Z41, Z40, Z0t, Z0u, Z0v, Z0s, Z1f, Z4c, Z4b, Z4d, Z4a, Z49, ex, Z43, Z42, ev_t, ev_c, Z27, Z26, Z4e, Z4f, Z2m, Z2l, Z2f, Z2j, Z2k, Z2g, Z2h, Z2i, putc, exBslice, lfill, exField, exIdxV, exIdxP, exBox, exAlloc, exLoad, exStore, exFieldA, exIdxA, exLen, exPick, exUn, exBeq, exMM, exSeq, seqGo, exExt, binV, intOp, subc, AV.solid, S0, encI, encB, packC]
    refine CallR.pure H.sort0 (cl_cons (.sl _ _ (by simp)) cl_nil) (.tup _ (by simp)) ?_
    simp [Z0h, Z0c, Z0d, Z09, Z0a, Z0i, Z0b, Z0f, Z0g, Z2z, Z2y, Z07, Z08, Z06, Z01, Z02, Z00, Z04, Z05, Z03, Z1z, Z1y, Z46, Z48, Z47, Z45, Z1n, Z1o, Z1m, Z3n, Z3k, Z3m, Z3l, Z3o, Z1l, Z29, Z32, Z3x, Z1i, Z1j, Z1k, Z3v, Z3w, Z1g, Z28, Z1h, Z3i, Z3f, Z3h, Z3g, Z3j, Z41, Z40, Z0t, Z0u, Z0v, Z0s, Z1f, Z4c, Z4b, Z4d, Z4a, Z49, ex, Z43, Z42, ev_t, ev_c, Z27, Z26, Z4e, Z4f, Z2m, Z2l, Z2f, Z2j, Z2k, Z2g, Z2h, Z2i, putc, exBslice, lfill, exField, exIdxV, exIdxP, exBox, exAlloc, exLoad, exStore, exFieldA, exIdxA, exLen, exPick, exUn, exBeq, exMM, exSeq, seqGo, exExt, binV, intOp, subc, AV.solid, S0, encI, encB]
    refine CallR.pure H.comp0 (cl_cons (.sl _ _ (by simp)) cl_nil) (.sl _ _ (by simp)) ?_
    simp [Z0h, Z0c, Z0d, Z09, Z0a, Z0i, Z0b, Z0f, Z0g, Z2z, Z2y, Z07, Z08, Z06, Z01, Z02, Z00, Z04, Z05, Z03, Z1z, Z1y, Z46, Z48, Z47, Z45, Z1n, Z1o, Z1m, Z3n, Z3k, Z3m, Z3l, Z3o, Z1l, Z29, Z32, Z3x, Z1i, Z1j, Z1k, Z3v, Z3w, Z1g, Z28, Z1h, Z3i, Z3f, Z3h, Z3g, Z3j, Z41, Z40, Z0t, Z0u, Z0v, Z0s, Z1f, Z4c, Z4b, Z4d, Z4a, Z49, ex, Z43, Z42, ev_t, ev_c, Z27, Z26, Z4e, Z4f, Z2m, Z2l, Z2f, Z2j, Z2k, Z2g, Z2h, Z2i, putc, exBslice, lfill, exField, exIdxV, exIdxP, exBox, exAlloc, exLoad, exStore, exFieldA, exIdxA, exLen, exPick, exUn, exBeq, exMM, exSeq, seqGo, exExt, binV, intOp, subc, AV.solid, S0, encI, encB]
    exact .loose true [] (.sl _ _ (by simp))
  · have hne : 0 < l.length := List.length_pos_iff.mpr h0
    have hls := List.length_mergeSort l (le := fun x y => decide (x ≤ y))
    have hne2 : (l.mergeSort fun x y => decide (x ≤ y)) ≠ [] := by
      intro e; rw [e] at hm; simp at hm; omega
    simp [Z0h, Z0c, Z0d, Z09, Z0a, Z0i, Z0b, Z0f, Z0g, Z2z, Z2y, Z07, Z08, Z06, Z01, Z02, Z00, Z04, Z05, Z03, Z1z, Z1y, Z46, Z48, Z47, Z45, Z1n, Z1o, Z1m, Z3n, Z3k, Z3m, Z3l, Z3o, Z1l, Z29, Z32, Z3x, Z1i, Z1j, Z1k, Z3v, Z3w, Z1g, Z28, Z1h, Z3i, Z3f, Z3h, Z3g, Z3j, Z41, Z40, Z0t, Z0u, Z0v, Z0s, Z1f, Z4c, Z4b, Z4d, Z4a, Z49, ex, Z43, Z42, ev_t, ev_c, Z27, Z26, Z4e, Z4f, Z2m, Z2l, Z2f, Z2j, Z2k, Z2g, Z2h, Z2i, putc, exBslice, lfill, exField, exIdxV, exIdxP, exBox, exAlloc, exLoad, exStore, exFieldA, exIdxA, exLen, exPick, exUn, exBeq, exMM, exSeq, seqGo, exExt, binV, intOp, subc, AV.solid, S0, encI, encB, c_net_set, encIs]
    refine H.clone rfl ?_
    have hb : exBslice 1 0 (.v (.int .i64 0)) [] = some (.sl true []) := exBslice_nil _ _
    have hr : ∀ n nid, (exApp 1 8 (.sl true []) (.sl false (l.map encI))).run ⟨n, fun _ => none⟩ nid = some (.own nid 0 l.length, (⟨n, fun _ => none⟩ : St).set nid (some (.arr 1 (l.map encI)))) := by
      intro n nid
      have hc := cells_I l
      have ha : appOk 8 0 l.length := by unfold appOk; omega
      have hc2 : ∀ x ∈ l.map encI, x.cells.length = 1 := hc
      have h3 : lstE 1 [] (.sl false (l.map encI)) = some (l.map encI) := by simp only [lstE]; rw [if_pos hc2]
      have h4 : ¬ (l.map encI).length = 0 := by simp; exact h0
      simp only [exApp, Eff.run, AV.oid, List.mapM_nil, Option.pure_def, h3, Option.bind_some, List.length_nil, Nat.zero_add, List.length_map, ha, and_true]
      rw [if_pos (by simp), if_neg (by simpa using h0)]
      simp [St.setL, St.setO]
    simp [Z0h, Z0c, Z0d, Z09, Z0a, Z0i, Z0b, Z0f, Z0g, Z2z, Z2y, Z07, Z08, Z06, Z01, Z02, Z00, Z04, Z05, Z03, Z1z, Z1y, Z46, Z48, Z47, Z45, Z1n, Z1o, Z1m, Z3n, Z3k, Z3m, Z3l, Z3o, Z1l, Z29, Z32, Z3x, Z1i, Z1j, Z1k, Z3v, Z3w, Z1g, Z28, Z1h, Z3i, Z3f, Z3h, Z3g, Z3j, Z41, Z40, Z0t, Z0u, Z0v, Z0s, Z1f, Z4c, Z4b, Z4d, Z4a, Z49, ex, Z43, Z42, ev_t, ev_c, Z27, Z26, Z4e, Z4f, Z2m, Z2l, Z2f, Z2j, Z2k, Z2g, Z2h, Z2i, putc, exBslice, lfill, exField, exIdxV, exIdxP, exBox, exAlloc, exLoad, exStore, exFieldA, exIdxA, exLen, exPick, exUn, exBeq, exMM, exSeq, seqGo, exExt, binV, intOp, subc, AV.solid, S0, encI, encB, c_cloneOv, hb, hr]
    refine ⟨[.own 9 0 l.length], by simp [evC, RV.ev, Z43], ?_⟩
    simp [Z0h, Z0c, Z0d, Z09, Z0a, Z0i, Z0b, Z0f, Z0g, Z2z, Z2y, Z07, Z08, Z06, Z01, Z02, Z00, Z04, Z05, Z03, Z1z, Z1y, Z46, Z48, Z47, Z45, Z1n, Z1o, Z1m, Z3n, Z3k, Z3m, Z3l, Z3o, Z1l, Z29, Z32, Z3x, Z1i, Z1j, Z1k, Z3v, Z3w, Z1g, Z28, Z1h, Z3i, Z3f, Z3h, Z3g, Z3j, Z41, Z40, Z0t, Z0u, Z0v, Z0s, Z1f, Z4c, Z4b, Z4d, Z4a, Z49, ex, Z43, Z42, ev_t, ev_c, Z27, Z26, Z4e, Z4f, Z2m, Z2l, Z2f, Z2j, Z2k, Z2g, Z2h, Z2i, putc, exBslice, lfill, exField, exIdxV, exIdxP, exBox, exAlloc, exLoad, exStore, exFieldA, exIdxA, exLen, exPick, exUn, exBeq, exMM, exSeq, seqGo, exExt, binV, intOp, subc, AV.solid, S0, encI, encB, packC]
    refine H.sort _ _ 0 (l.map encI) l _ (by simp [Z4e]) (by simp) h0 hl ?_
    simp [Z0h, Z0c, Z0d, Z09, Z0a, Z0i, Z0b, Z0f, Z0g, Z2z, Z2y, Z07, Z08, Z06, Z01, Z02, Z00, Z04, Z05, Z03, Z1z, Z1y, Z46, Z48, Z47, Z45, Z1n, Z1o, Z1m, Z3n, Z3k, Z3m, Z3l, Z3o, Z1l, Z29, Z32, Z3x, Z1i, Z1j, Z1k, Z3v, Z3w, Z1g, Z28, Z1h, Z3i, Z3f, Z3h, Z3g, Z3j, Z41, Z40, Z0t, Z0u, Z0v, Z0s, Z1f, Z4c, Z4b, Z4d, Z4a, Z49, ex, Z43, Z42, ev_t, ev_c, Z27, Z26, Z4e, Z4f, Z2m, Z2l, Z2f, Z2j, Z2k, Z2g, Z2h, Z2i, putc, exBslice, lfill, exField, exIdxV, exIdxP, exBox, exAlloc, exLoad, exStore, exFieldA, exIdxA, exLen, exPick, exUn, exBeq, exMM, exSeq, seqGo, exExt, binV, intOp, subc, AV.solid, S0, encI, encB]
    have e : l.length = (l.mergeSort fun x y => decide (x ≤ y)).length := hm.symm
    rw [e]
    refine H.comp _ _ 0 ((l.mergeSort fun x y => decide (x ≤ y)).map encI) _ _ (by simp [Z4e]) (by simp) hne2 (by omega) ?_
    simp [Z0h, Z0c, Z0d, Z09, Z0a, Z0i, Z0b, Z0f, Z0g, Z2z, Z2y, Z07, Z08, Z06, Z01, Z02, Z00, Z04, Z05, Z03, Z1z, Z1y, Z46, Z48, Z47, Z45, Z1n, Z1o, Z1m, Z3n, Z3k, Z3m, Z3l, Z3o, Z1l, Z29, Z32, Z3x, Z1i, Z1j, Z1k, Z3v, Z3w, Z1g, Z28, Z1h, Z3i, Z3f, Z3h, Z3g, Z3j, Z41, Z40, Z0t, Z0u, Z0v, Z0s, Z1f, Z4c, Z4b, Z4d, Z4a, Z49, ex, Z43, Z42, ev_t, ev_c, Z27, Z26, Z4e, Z4f, Z2m, Z2l, Z2f, Z2j, Z2k, Z2g, Z2h, Z2i, putc, exBslice, lfill, exField, exIdxV, exIdxP, exBox, exAlloc, exLoad, exStore, exFieldA, exIdxA, exLen, exPick, exUn, exBeq, exMM, exSeq, seqGo, exExt, binV, intOp, subc, AV.solid, S0, encI, encB]
    exact (Vec.mk' (es := 1) (xs := (setF l).map encI) (by simp [Z4e, setF]) (by simp [setF])).fz Z2r
theorem net_lies_body {P : Program} {fs fe : FuncId} (l : List Int) (a b : Int) (hl : l.length ≤ 1000000) (h1 : PureC P fs [encIs l] (encIs (setF l))) (h2 : ∀ x y, Len x → Len y → PureC P fe [encIs x, encIs y] (encB (x == y))) :
    AW P (c_net_lies fs fe) (RetK [6] (FzK (encB (risesB l a b)))) (argF [encIs l, encI a, encI b]) S0 := by
  by_cases h0 : l = []
  · subst h0
    simp [Z0h, Z0c, Z0d, Z09, Z0a, Z0i, Z0b, Z0f, Z0g, Z2z, Z2y, Z07, Z08, Z06, Z01, Z02, Z00, Z04, Z05, Z03, Z1z, Z1y, Z46, Z48, Z47, Z45, Z1n, Z1o, Z1m, Z3n, Z3k, Z3m, Z3l, Z3o, Z1l, Z29, Z32, Z3x, Z1i, Z1j, Z1k, Z3v, Z3w, Z1g, Z28, Z1h, Z3i, Z3f, Z3h, Z3g, Z3j, Z41, Z40, Z0t, Z0u, Z0v, Z0s, Z1f, Z4c, Z4b, Z4d, Z4a, Z49, ex, Z43, Z42, ev_t, ev_c, Z27, Z26, Z4e, Z4f, Z2m, Z2l, Z2f, Z2j, Z2k, Z2g, Z2h, Z2i, putc, exBslice, lfill, exField, exIdxV, exIdxP, exBox, exAlloc, exLoad, exStore, exFieldA, exIdxA, exLen, exPick, exUn, exBeq, exMM, exSeq, seqGo, exExt, binV, intOp, subc, AV.solid, S0, encI, encB, c_net_lies, encIs]
    exact FzK_B _ _
  · have hne : 0 < l.length := List.length_pos_iff.mpr h0
    have hn : ((l.length : Int) == 0) = false := by simp; exact h0
    have hf : l[0]? = some l[0] := List.getElem?_eq_getElem hne
    have hx : l[l.length - 1]? = some l[l.length - 1] := List.getElem?_eq_getElem (by omega)
    have hw := wrap_in ((l.length : Int) - 1) (by omega)
    have hnn : (1 : Int) ≤ (l.length : Int) := by omega
    by_cases hA : a ≤ l[0]
    · by_cases hB : l[l.length - 1] < b
      · have c1 := cl_cons (Z2s l) cl_nil
        have c2 := cl_cons (Z2s l) (cl_cons (Z2s (setF l)) cl_nil)
        have k2 := h2 l (setF l) (by unfold Len; omega) (by unfold Len; have := setF_len l; omega)
        have c3 := Z2s (setF l)
        simp only [encIs] at c1 c2 c3 h1 k2
        simp [Z0h, Z0c, Z0d, Z09, Z0a, Z0i, Z0b, Z0f, Z0g, Z2z, Z2y, Z07, Z08, Z06, Z01, Z02, Z00, Z04, Z05, Z03, Z1z, Z1y, Z46, Z48, Z47, Z45, Z1n, Z1o, Z1m, Z3n, Z3k, Z3m, Z3l, Z3o, Z1l, Z29, Z32, Z3x, Z1i, Z1j, Z1k, Z3v, Z3w, Z1g, Z28, Z1h, Z3i, Z3f, Z3h, Z3g, Z3j, Z41, Z40, Z0t, Z0u, Z0v, Z0s, Z1f, Z4c, Z4b, Z4d, Z4a, Z49, ex, Z43, Z42, ev_t, ev_c, Z27, Z26, Z4e, Z4f, Z2m, Z2l, Z2f, Z2j, Z2k, Z2g, Z2h, Z2i, putc, exBslice, lfill, exField, exIdxV, exIdxP, exBox, exAlloc, exLoad, exStore, exFieldA, exIdxA, exLen, exPick, exUn, exBeq, exMM, exSeq, seqGo, exExt, binV, intOp, subc, AV.solid, S0, encI, encB, c_net_lies, encIs, hn, hf, hA, hw, hnn, hx, hB]
        refine CallR.pure h1 c1 c3 ?_
        simp [Z0h, Z0c, Z0d, Z09, Z0a, Z0i, Z0b, Z0f, Z0g, Z2z, Z2y, Z07, Z08, Z06, Z01, Z02, Z00, Z04, Z05, Z03, Z1z, Z1y, Z46, Z48, Z47, Z45, Z1n, Z1o, Z1m, Z3n, Z3k, Z3m, Z3l, Z3o, Z1l, Z29, Z32, Z3x, Z1i, Z1j, Z1k, Z3v, Z3w, Z1g, Z28, Z1h, Z3i, Z3f, Z3h, Z3g, Z3j, Z41, Z40, Z0t, Z0u, Z0v, Z0s, Z1f, Z4c, Z4b, Z4d, Z4a, Z49, ex, Z43, Z42, ev_t, ev_c, Z27, Z26, Z4e, Z4f, Z2m, Z2l, Z2f, Z2j, Z2k, Z2g, Z2h, Z2i, putc, exBslice, lfill, exField, exIdxV, exIdxP, exBox, exAlloc, exLoad, exStore, exFieldA, exIdxA, exLen, exPick, exUn, exBeq, exMM, exSeq, seqGo, exExt, binV, intOp, subc, AV.solid, S0, encI, encB]
        refine CallR.pure k2 c2 (Z2o _) ?_
        simp [Z0h, Z0c, Z0d, Z09, Z0a, Z0i, Z0b, Z0f, Z0g, Z2z, Z2y, Z07, Z08, Z06, Z01, Z02, Z00, Z04, Z05, Z03, Z1z, Z1y, Z46, Z48, Z47, Z45, Z1n, Z1o, Z1m, Z3n, Z3k, Z3m, Z3l, Z3o, Z1l, Z29, Z32, Z3x, Z1i, Z1j, Z1k, Z3v, Z3w, Z1g, Z28, Z1h, Z3i, Z3f, Z3h, Z3g, Z3j, Z41, Z40, Z0t, Z0u, Z0v, Z0s, Z1f, Z4c, Z4b, Z4d, Z4a, Z49, ex, Z43, Z42, ev_t, ev_c, Z27, Z26, Z4e, Z4f, Z2m, Z2l, Z2f, Z2j, Z2k, Z2g, Z2h, Z2i, putc, exBslice, lfill, exField, exIdxV, exIdxP, exBox, exAlloc, exLoad, exStore, exFieldA, exIdxA, exLen, exPick, exUn, exBeq, exMM, exSeq, seqGo, exExt, binV, intOp, subc, AV.solid, S0, encI, encB]
        have e : (l == setF l) = risesB l a b := by
          rw [Bool.eq_iff_iff, risesB_iff, beq_iff_eq]
          constructor
          · intro h
            have hp := setF_self.mp h.symm
            refine ⟨hp, fun x hx => ?_⟩
            obtain ⟨k, hk, rfl⟩ := List.mem_iff_getElem.mp hx
            have hpw := List.pairwise_iff_getElem.mp hp
            constructor
            · by_cases e : k = 0
              · subst e; exact hA
              · have := hpw 0 k hne hk (by omega); omega
            · by_cases e : k = l.length - 1
              · subst e; exact hB
              · have := hpw k (l.length - 1) hk (by omega) (by omega); omega
          · intro h; exact (setF_self.mpr h.1).symm
        rw [e]
        exact FzK_B _ _
      · have e : risesB l a b = false := by
          cases hr : risesB l a b with
          | false => rfl
          | true => exact (hB ((risesB_iff.mp hr).2 _ (List.getElem_mem (by omega))).2).elim
        simp [Z0h, Z0c, Z0d, Z09, Z0a, Z0i, Z0b, Z0f, Z0g, Z2z, Z2y, Z07, Z08, Z06, Z01, Z02, Z00, Z04, Z05, Z03, Z1z, Z1y, Z46, Z48, Z47, Z45, Z1n, Z1o, Z1m, Z3n, Z3k, Z3m, Z3l, Z3o, Z1l, Z29, Z32, Z3x, Z1i, Z1j, Z1k, Z3v, Z3w, Z1g, Z28, Z1h, Z3i, Z3f, Z3h, Z3g, Z3j, Z41, Z40, Z0t, Z0u, Z0v, Z0s, Z1f, Z4c, Z4b, Z4d, Z4a, Z49, ex, Z43, Z42, ev_t, ev_c, Z27, Z26, Z4e, Z4f, Z2m, Z2l, Z2f, Z2j, Z2k, Z2g, Z2h, Z2i, putc, exBslice, lfill, exField, exIdxV, exIdxP, exBox, exAlloc, exLoad, exStore, exFieldA, exIdxA, exLen, exPick, exUn, exBeq, exMM, exSeq, seqGo, exExt, binV, intOp, subc, AV.solid, S0, encI, encB, c_net_lies, encIs, hn, hf, hA, hw, hnn, hx, hB, e]
        exact FzK_B _ _
    · have e : risesB l a b = false := by
        cases hr : risesB l a b with
        | false => rfl
        | true => exact (hA ((risesB_iff.mp hr).2 _ (List.getElem_mem hne)).1).elim
      simp [Z0h, Z0c, Z0d, Z09, Z0a, Z0i, Z0b, Z0f, Z0g, Z2z, Z2y, Z07, Z08, Z06, Z01, Z02, Z00, Z04, Z05, Z03, Z1z, Z1y, Z46, Z48, Z47, Z45, Z1n, Z1o, Z1m, Z3n, Z3k, Z3m, Z3l, Z3o, Z1l, Z29, Z32, Z3x, Z1i, Z1j, Z1k, Z3v, Z3w, Z1g, Z28, Z1h, Z3i, Z3f, Z3h, Z3g, Z3j, Z41, Z40, Z0t, Z0u, Z0v, Z0s, Z1f, Z4c, Z4b, Z4d, Z4a, Z49, ex, Z43, Z42, ev_t, ev_c, Z27, Z26, Z4e, Z4f, Z2m, Z2l, Z2f, Z2j, Z2k, Z2g, Z2h, Z2i, putc, exBslice, lfill, exField, exIdxV, exIdxP, exBox, exAlloc, exLoad, exStore, exFieldA, exIdxA, exLen, exPick, exUn, exBeq, exMM, exSeq, seqGo, exExt, binV, intOp, subc, AV.solid, S0, encI, encB, c_net_lies, encIs, hn, hf, hA, e]
      exact FzK_B _ _
def riI (l : List Int) (a b : Int) (i : Nat) (f : AF) (S : St) : Prop := f 7 = encI i ∧ f 0 = encIs l ∧ f 1 = encI a ∧ f 2 = encI b ∧ (∀ k (h : k < l.length), k < i → a ≤ l[k] ∧ l[k] < b) ∧ ∀ k (h : k + 1 < l.length), k + 1 < i → l[k] < l[k + 1]
theorem rises_step {l : List Int} {a b : Int} (h1 : ∀ k (h : k < l.length), a ≤ l[k] ∧ l[k] < b) (h2 : ∀ k (h : k + 1 < l.length), l[k] < l[k + 1]) : RisesP l a b := by
  refine ⟨?_, fun x hx => ?_⟩
  · rw [List.pairwise_iff_getElem]
    intro i j hi hj hij
    have key : ∀ d i (h : i + d + 1 < l.length), l[i] < l[i + d + 1] := by
      intro d
      induction d with
      | zero => intro i h; exact h2 i h
      | succ d ih => intro i h; have := ih i (by omega); have := h2 (i + d + 1) (by omega); simp only [show i + (d + 1) + 1 = i + d + 1 + 1 by omega]; omega
    have := key (j - i - 1) i (by omega)
    simp only [show i + (j - i - 1) + 1 = j by omega] at this
    exact this
  · obtain ⟨k, hk, rfl⟩ := List.mem_iff_getElem.mp hx
    exact h1 k hk
theorem rising13_body {P : Program} (l : List Int) (a b : Int) (hl : Len l) : AW P c_caesuraref13_rising (RetK [6] (FzK (encB (risesB l a b)))) (argF [encIs l, encI a, encI b]) S0 := by
  unfold Len at hl
  simp [Z0h, Z0c, Z0d, Z09, Z0a, Z0i, Z0b, Z0f, Z0g, Z2z, Z2y, Z07, Z08, Z06, Z01, Z02, Z00, Z04, Z05, Z03, Z1z, Z1y, Z46, Z48, Z47, Z45, Z1n, Z1o, Z1m, Z3n, Z3k, Z3m, Z3l, Z3o, Z1l, Z29, Z32, Z3x, Z1i, Z1j, Z1k, Z3v, Z3w, Z1g, Z28, Z1h, Z3i, Z3f, Z3h, Z3g, Z3j, Z41, Z40, Z0t, Z0u, Z0v, Z0s, Z1f, Z4c, Z4b, Z4d, Z4a, Z49, ex, Z43, Z42, ev_t, ev_c, Z27, Z26, Z4e, Z4f, Z2m, Z2l, Z2f, Z2j, Z2k, Z2g, Z2h, Z2i, putc, exBslice, lfill, exField, exIdxV, exIdxP, exBox, exAlloc, exLoad, exStore, exFieldA, exIdxA, exLen, exPick, exUn, exBeq, exMM, exSeq, seqGo, exExt, binV, intOp, subc, AV.solid, S0, encI, encB, c_caesuraref13_rising, encIs]
  refine AW_for l.length (riI l a b) ?_ ?_
  · refine ⟨?_, ?_, ?_, ?_, by omega, by omega⟩ <;> simp [Z43, Z27, Z26, encI, encIs]
  · rintro i f S hi ⟨e7, e0, e1, e2, q1, q2⟩
    have no : ∀ x : Prop, (¬ x) → (RisesP l a b → x) → risesB l a b = false := by
      intro x hx h
      cases hr : risesB l a b with
      | false => rfl
      | true => exact (hx (h (risesB_iff.mp hr))).elim
    by_cases hlt : i < l.length
    · by_cases hA : l[i] < a
      · have e := no (a ≤ l[i]) (by omega) (fun h => (h.2 _ (List.getElem_mem hlt)).1)
        simp [Z0h, Z0c, Z0d, Z09, Z0a, Z0i, Z0b, Z0f, Z0g, Z2z, Z2y, Z07, Z08, Z06, Z01, Z02, Z00, Z04, Z05, Z03, Z1z, Z1y, Z46, Z48, Z47, Z45, Z1n, Z1o, Z1m, Z3n, Z3k, Z3m, Z3l, Z3o, Z1l, Z29, Z32, Z3x, Z1i, Z1j, Z1k, Z3v, Z3w, Z1g, Z28, Z1h, Z3i, Z3f, Z3h, Z3g, Z3j, Z41, Z40, Z0t, Z0u, Z0v, Z0s, Z1f, Z4c, Z4b, Z4d, Z4a, Z49, ex, Z43, Z42, ev_t, ev_c, Z27, Z26, Z4e, Z4f, Z2m, Z2l, Z2f, Z2j, Z2k, Z2g, Z2h, Z2i, putc, exBslice, lfill, exField, exIdxV, exIdxP, exBox, exAlloc, exLoad, exStore, exFieldA, exIdxA, exLen, exPick, exUn, exBeq, exMM, exSeq, seqGo, exExt, binV, intOp, subc, AV.solid, S0, encI, encB, e7, e0, e1, e2, hlt, encIs, hA, e]
        exact FzK_B _ _
      · by_cases hB : b ≤ l[i]
        · have e := no (l[i] < b) (by omega) (fun h => (h.2 _ (List.getElem_mem hlt)).2)
          simp [Z0h, Z0c, Z0d, Z09, Z0a, Z0i, Z0b, Z0f, Z0g, Z2z, Z2y, Z07, Z08, Z06, Z01, Z02, Z00, Z04, Z05, Z03, Z1z, Z1y, Z46, Z48, Z47, Z45, Z1n, Z1o, Z1m, Z3n, Z3k, Z3m, Z3l, Z3o, Z1l, Z29, Z32, Z3x, Z1i, Z1j, Z1k, Z3v, Z3w, Z1g, Z28, Z1h, Z3i, Z3f, Z3h, Z3g, Z3j, Z41, Z40, Z0t, Z0u, Z0v, Z0s, Z1f, Z4c, Z4b, Z4d, Z4a, Z49, ex, Z43, Z42, ev_t, ev_c, Z27, Z26, Z4e, Z4f, Z2m, Z2l, Z2f, Z2j, Z2k, Z2g, Z2h, Z2i, putc, exBslice, lfill, exField, exIdxV, exIdxP, exBox, exAlloc, exLoad, exStore, exFieldA, exIdxA, exLen, exPick, exUn, exBeq, exMM, exSeq, seqGo, exExt, binV, intOp, subc, AV.solid, S0, encI, encB, e7, e0, e1, e2, hlt, encIs, hA, hB, e]
          exact FzK_B _ _
        · by_cases hi0 : i = 0
          · subst hi0
            simp [Z0h, Z0c, Z0d, Z09, Z0a, Z0i, Z0b, Z0f, Z0g, Z2z, Z2y, Z07, Z08, Z06, Z01, Z02, Z00, Z04, Z05, Z03, Z1z, Z1y, Z46, Z48, Z47, Z45, Z1n, Z1o, Z1m, Z3n, Z3k, Z3m, Z3l, Z3o, Z1l, Z29, Z32, Z3x, Z1i, Z1j, Z1k, Z3v, Z3w, Z1g, Z28, Z1h, Z3i, Z3f, Z3h, Z3g, Z3j, Z41, Z40, Z0t, Z0u, Z0v, Z0s, Z1f, Z4c, Z4b, Z4d, Z4a, Z49, ex, Z43, Z42, ev_t, ev_c, Z27, Z26, Z4e, Z4f, Z2m, Z2l, Z2f, Z2j, Z2k, Z2g, Z2h, Z2i, putc, exBslice, lfill, exField, exIdxV, exIdxP, exBox, exAlloc, exLoad, exStore, exFieldA, exIdxA, exLen, exPick, exUn, exBeq, exMM, exSeq, seqGo, exExt, binV, intOp, subc, AV.solid, S0, encI, encB, e7, e0, e1, e2, hlt, encIs, hA, hB]
            rw [wrap_in _ (by omega)]
            refine ⟨hlt, ?_, ?_, ?_, ?_, fun k h hk => ?_, fun k h hk => by omega⟩
            · simp [Z43, encI]
            · simp [Z43, e0, encIs]
            · simp [Z43, e1]
            · simp [Z43, e2]
            · have : k = 0 := by omega
              subst this; omega
          · have hp : (0 : Int) < i := by omega
            have hp2 : 0 < i := by omega
            have hw := wrap_in ((i : Int) - 1) (by omega)
            have hnn : (1 : Int) ≤ (i : Int) := by omega
            have hx : l[i - 1]? = some l[i - 1] := List.getElem?_eq_getElem (by omega)
            by_cases hC : l[i] ≤ l[i - 1]
            · have e := no (l[i - 1] < l[i]) (by omega) (fun h => List.pairwise_iff_getElem.mp h.1 (i - 1) i (by omega) hlt (by omega))
              simp [Z0h, Z0c, Z0d, Z09, Z0a, Z0i, Z0b, Z0f, Z0g, Z2z, Z2y, Z07, Z08, Z06, Z01, Z02, Z00, Z04, Z05, Z03, Z1z, Z1y, Z46, Z48, Z47, Z45, Z1n, Z1o, Z1m, Z3n, Z3k, Z3m, Z3l, Z3o, Z1l, Z29, Z32, Z3x, Z1i, Z1j, Z1k, Z3v, Z3w, Z1g, Z28, Z1h, Z3i, Z3f, Z3h, Z3g, Z3j, Z41, Z40, Z0t, Z0u, Z0v, Z0s, Z1f, Z4c, Z4b, Z4d, Z4a, Z49, ex, Z43, Z42, ev_t, ev_c, Z27, Z26, Z4e, Z4f, Z2m, Z2l, Z2f, Z2j, Z2k, Z2g, Z2h, Z2i, putc, exBslice, lfill, exField, exIdxV, exIdxP, exBox, exAlloc, exLoad, exStore, exFieldA, exIdxA, exLen, exPick, exUn, exBeq, exMM, exSeq, seqGo, exExt, binV, intOp, subc, AV.solid, S0, encI, encB, e7, e0, e1, e2, hlt, encIs, hA, hB, hp, hp2, hw, hnn, hx, hC, e]
              exact FzK_B _ _
            · simp [Z0h, Z0c, Z0d, Z09, Z0a, Z0i, Z0b, Z0f, Z0g, Z2z, Z2y, Z07, Z08, Z06, Z01, Z02, Z00, Z04, Z05, Z03, Z1z, Z1y, Z46, Z48, Z47, Z45, Z1n, Z1o, Z1m, Z3n, Z3k, Z3m, Z3l, Z3o, Z1l, Z29, Z32, Z3x, Z1i, Z1j, Z1k, Z3v, Z3w, Z1g, Z28, Z1h, Z3i, Z3f, Z3h, Z3g, Z3j, Z41, Z40, Z0t, Z0u, Z0v, Z0s, Z1f, Z4c, Z4b, Z4d, Z4a, Z49, ex, Z43, Z42, ev_t, ev_c, Z27, Z26, Z4e, Z4f, Z2m, Z2l, Z2f, Z2j, Z2k, Z2g, Z2h, Z2i, putc, exBslice, lfill, exField, exIdxV, exIdxP, exBox, exAlloc, exLoad, exStore, exFieldA, exIdxA, exLen, exPick, exUn, exBeq, exMM, exSeq, seqGo, exExt, binV, intOp, subc, AV.solid, S0, encI, encB, e7, e0, e1, e2, hlt, encIs, hA, hB, hp, hp2, hw, hnn, hx, hC]
              rw [wrap_in _ (by omega)]
              refine ⟨hlt, ?_, ?_, ?_, ?_, fun k h hk => ?_, fun k h hk => ?_⟩
              · simp [Z43, encI]
              · simp [Z43, e0, encIs]
              · simp [Z43, e1]
              · simp [Z43, e2]
              · by_cases hki : k = i
                · subst hki; omega
                · exact q1 k h (by omega)
              · by_cases hki : k + 1 = i
                · subst hki; simp only [Nat.add_sub_cancel] at hC; omega
                · exact q2 k h (by omega)
    · have e : risesB l a b = true := risesB_iff.mpr (rises_step (fun k h => q1 k h (by omega)) (fun k h => q2 k h (by omega)))
      simp [Z0h, Z0c, Z0d, Z09, Z0a, Z0i, Z0b, Z0f, Z0g, Z2z, Z2y, Z07, Z08, Z06, Z01, Z02, Z00, Z04, Z05, Z03, Z1z, Z1y, Z46, Z48, Z47, Z45, Z1n, Z1o, Z1m, Z3n, Z3k, Z3m, Z3l, Z3o, Z1l, Z29, Z32, Z3x, Z1i, Z1j, Z1k, Z3v, Z3w, Z1g, Z28, Z1h, Z3i, Z3f, Z3h, Z3g, Z3j, Z41, Z40, Z0t, Z0u, Z0v, Z0s, Z1f, Z4c, Z4b, Z4d, Z4a, Z49, ex, Z43, Z42, ev_t, ev_c, Z27, Z26, Z4e, Z4f, Z2m, Z2l, Z2f, Z2j, Z2k, Z2g, Z2h, Z2i, putc, exBslice, lfill, exField, exIdxV, exIdxP, exBox, exAlloc, exLoad, exStore, exFieldA, exIdxA, exLen, exPick, exUn, exBeq, exMM, exSeq, seqGo, exExt, binV, intOp, subc, AV.solid, S0, encI, encB, e7, e0, e1, e2, hlt, encIs, e]
      exact FzK_B _ _
end Go.Rf

