import Derived.Test.YtidkjfaeolfcaaaGreatRfCell
import Derived.Test.YtidkjfaeolfcaaaGreatRfB3
set_option linter.unusedVariables false
set_option linter.unusedSimpArgs false
namespace Go.Rf
def c_path_Write_1 : AC :=
  (.seq (.reg none [
   ⟨(some 2), .mv (.c (.v (.bool false))), none, none⟩])
  (.seq (.reg none [
   ⟨(some 3), .mv (.t 0), none, none⟩,
   ⟨(some 4), .bin .lss (.t 3) (.c (.v (.int .i64 0))), none, none⟩,
   ⟨(some 5), .mv (.t 4), none, none⟩,
   ⟨(some 6), .mv (.t 0), (some (5, false)), none⟩,
   ⟨(some 7), .bin .gtr (.t 6) (.c (.v (.int .i64 1048576))), (some (5, false)), none⟩,
   ⟨(some 8), .pick (.t 5) (.c (.v (.bool true))) (.t 7), none, none⟩,
   ⟨(some 2), .mv (.t 8), none, none⟩])
  .ret))
def c_path_Write (f_path_Write_1 f_slices_ContainsFunc_Sint_int_ : FuncId) : AC :=
  (.seq (.reg none [
   ⟨(some 4), .mv (.c (.sl true [])), none, none⟩])
  (.seq (.reg none [
   ⟨(some 5), .mv (.c (.clo f_path_Write_1 [] [])), none, none⟩])
  (.seq (.seq (.reg none [
   ⟨(some 9), .mv (.t 1), none, none⟩,
   ⟨(some 10), .bin .lss (.t 9) (.c (.v (.int .i64 1))), none, none⟩,
   ⟨(some 11), .mv (.t 10), none, none⟩,
   ⟨(some 12), .mv (.t 1), (some (11, false)), none⟩,
   ⟨(some 13), .mv (.t 0), (some (11, false)), none⟩,
   ⟨(some 14), .len (.t 13), (some (11, false)), none⟩,
   ⟨(some 15), .bin .geq (.t 12) (.t 14), (some (11, false)), none⟩,
   ⟨(some 16), .pick (.t 11) (.c (.v (.bool true))) (.t 15), none, none⟩,
   ⟨(some 17), .mv (.t 16), none, none⟩,
   ⟨(some 18), .mv (.t 0), (some (17, false)), none⟩,
   ⟨(some 19), .mv (.t 5), (some (17, false)), none⟩,
   ⟨(some 20), .mv (.c .junk), (some (17, false)), (some ((.c (.clo f_slices_ContainsFunc_Sint_int_ [] [])), [(.t 18), (.t 19)]))⟩,
   ⟨(some 21), .pick (.t 17) (.c (.v (.bool true))) (.t 20), none, none⟩])
  (.cond (.t 21) (.seq (.reg none [
    ⟨(some 4), .mv (.c (.sl true [])), none, none⟩])
   .ret) .skip))
  (.seq (.reg none [
   ⟨(some 6), .mv (.c (.sl true [])), none, none⟩])
  (.seq (.seq (.reg none [
   ⟨(some 22), .mv (.t 0), none, none⟩,
   ⟨(some 23), .len (.t 22), none, none⟩,
   ⟨(some 24), .mv (.c (.v (.int .i64 0))), none, none⟩])
  (.block 0 (.loop (.seq (.reg none [
     ⟨(some 25), .bin .lss (.t 24) (.t 23), none, none⟩])
    (.seq (.cond (.t 25) .skip (.exit 0))
    (.seq (.block 1 (.seq (.reg none [
      ⟨(some 26), .mv (.t 24), none, none⟩,
      ⟨(some 27), .idxA 1 (.t 22) (.t 24), none, none⟩,
      ⟨(some 28), .load none (.t 27), none, none⟩,
      ⟨(some 7), .mv (.t 26), none, none⟩,
      ⟨(some 8), .mv (.t 28), none, none⟩])
     (.seq (.reg none [
      ⟨(some 29), .mv (.t 6), none, none⟩,
      ⟨(some 30), .mv (.t 8), none, none⟩,
      ⟨(some 31), .bin .mul (.c (.v (.int .i64 2))) (.t 30), none, none⟩,
      ⟨(some 32), .bslice 1 1 (.v (.int .i64 0)) [(0, (.t 31))], none, none⟩,
      ⟨(some 33), .app 1 8 (.t 29) (.t 32), none, none⟩,
      ⟨(some 6), .mv (.t 33), none, none⟩])
     (.seq (.reg none [
      ⟨(some 34), .mv (.t 7), none, none⟩,
      ⟨(some 35), .mv (.t 1), none, none⟩,
      ⟨(some 36), .bin .eql (.t 34) (.t 35), none, none⟩])
     (.cond (.t 36) (.reg none [
       ⟨(some 37), .mv (.t 6), none, none⟩,
       ⟨(some 38), .mv (.t 7), none, none⟩,
       ⟨(some 39), .idxA 1 (.t 37) (.t 38), none, none⟩,
       ⟨(some 40), .load none (.t 39), none, none⟩,
       ⟨(some 41), .bin .add (.t 40) (.c (.v (.int .i64 1))), none, none⟩,
       ⟨(some 42), .idxA 1 (.t 37) (.t 38), none, none⟩,
       ⟨none, .store 1 (.t 42) (.t 41), none, none⟩]) .skip)))))
    (.reg none [
     ⟨(some 43), .bin .add (.t 24) (.c (.v (.int .i64 1))), none, none⟩,
     ⟨(some 24), .mv (.t 43), none, none⟩])))))))
  (.seq (.reg none [
   ⟨(some 44), .mv (.t 6), none, none⟩,
   ⟨(some 4), .mv (.t 44), none, none⟩])
  .ret))))))
def oddS (s : Int) : Bool := decide (s < 0) || decide (1048576 < s)
theorem path_Write_1_body (P : Program) (s : Int) : AW P c_path_Write_1 (RetK [2] (FzK (encB (oddS s)))) (argF [encI s]) S0 := by
  by_cases h1 : s < 0
  · simp [Z0h, Z0c, Z0d, Z09, Z0a, Z0i, Z0b, Z0f, Z0g, Z2z, Z2y, Z07, Z08, Z06, Z01, Z02, Z00, Z04, Z05, Z03, Z1z, Z1y, Z46, Z48, Z47, Z45, Z1n, Z1o, Z1m, Z3n, Z3k, Z3m, Z3l, Z3o, Z1l, Z29, Z32, Z3x, Z1i, Z1j, Z1k, Z3v, Z3w, Z1g, Z28, Z1h, Z3i, Z3f, Z3h, Z3g, Z3j, Z41, Z40, Z0t, Z0u, Z0v, Z0s, Z1f, Z4c, Z4b, Z4d, Z4a, Z49, ex, Z43, Z42, ev_t, ev_c, Z27, Z26, Z4e, Z4f, Z2m, Z2l, Z2f, Z2j, Z2k, Z2g, Z2h, Z2i, putc, exBslice, lfill, exField, exIdxV, exIdxP, exBox, exAlloc, exLoad, exStore, exFieldA, exIdxA, exLen, exPick, exUn, exBeq, exMM, exSeq, seqGo, exExt, binV, intOp, subc, AV.solid, S0, encI, encB, c_path_Write_1, h1, oddS]
    exact FzK_B true _
  · simp [Z0h, Z0c, Z0d, Z09, Z0a, Z0i, Z0b, Z0f, Z0g, Z2z, Z2y, Z07, Z08, Z06, Z01, Z02, Z00, Z04, Z05, Z03, Z1z, Z1y, Z46, Z48, Z47, Z45, Z1n, Z1o, Z1m, Z3n, Z3k, Z3m, Z3l, Z3o, Z1l, Z29, Z32, Z3x, Z1i, Z1j, Z1k, Z3v, Z3w, Z1g, Z28, Z1h, Z3i, Z3f, Z3h, Z3g, Z3j, Z41, Z40, Z0t, Z0u, Z0v, Z0s, Z1f, Z4c, Z4b, Z4d, Z4a, Z49, ex, Z43, Z42, ev_t, ev_c, Z27, Z26, Z4e, Z4f, Z2m, Z2l, Z2f, Z2j, Z2k, Z2g, Z2h, Z2i, putc, exBslice, lfill, exField, exIdxV, exIdxP, exBox, exAlloc, exLoad, exStore, exFieldA, exIdxA, exLen, exPick, exUn, exBeq, exMM, exSeq, seqGo, exExt, binV, intOp, subc, AV.solid, S0, encI, encB, c_path_Write_1, h1, oddS]
    exact FzK_B _ _
def one1 (place : Int) (i : Nat) : Int := if (i : Int) = place then 1 else 0
def wrL (place : Int) : Nat → List Int → List Int
  | _, [] => []
  | i, s :: l => (2 * s + one1 place i) :: wrL place (i + 1) l
theorem wrL_length (place : Int) : ∀ (l : List Int) (i : Nat), (wrL place i l).length = l.length
  | [], _ => rfl
  | s :: l, i => by simp [wrL, wrL_length place l]
theorem wrL_snoc (place : Int) (s : Int) : ∀ (l : List Int) (i : Nat), wrL place i (l ++ [s]) = wrL place i l ++ [2 * s + one1 place (i + l.length)]
  | [], i => by simp [wrL]
  | t :: l, i => by
    simp only [List.cons_append, wrL, wrL_snoc place s l]
    simp; congr 1; omega
def writeS (signs : List Int) (place : Int) : List Int :=
  if 1 ≤ place ∧ place < signs.length ∧ signs.any oddS = false then wrL place 0 signs else []
theorem wr_take (place : Int) (l : List Int) (i : Nat) (h : i < l.length) : wrL place 0 (l.take (i + 1)) = wrL place 0 (l.take i) ++ [2 * l[i] + one1 place i] := by
  rw [List.take_add_one, List.getElem?_eq_getElem h]
  simp only [Option.toList_some]
  rw [wrL_snoc]; simp; congr 1; omega
def wrJ (signs : List Int) (place : Int) (m : Nat) (f : AF) (S : St) : Prop :=
  ∃ i : Nat, i ≤ signs.length ∧ m = signs.length - i ∧ f 24 = encI i ∧ f 23 = encI signs.length ∧ f 22 = encIs signs ∧ f 1 = encI place ∧ Vec S.g (f 6) 1 ((wrL place 0 (signs.take i)).map encI)
theorem path_Write_bodyN {P : Program} {f1 fc : FuncId} (signs : List Int) (place : Int) (hl : signs.length ≤ 1000000)
    (hc : PureC P fc [encIs signs, .clo f1 [] []] (encB (signs.any oddS))) : AW P (c_path_Write f1 fc) (RetK [4] (FzNK (encIs (writeS signs place)))) (argF [encIs signs, encI place]) S0 := by
  by_cases h1 : place < 1
  · have hr : writeS signs place = [] := by rw [writeS, if_neg (by omega)]
    simp [Z0h, Z0c, Z0d, Z09, Z0a, Z0i, Z0b, Z0f, Z0g, Z2z, Z2y, Z07, Z08, Z06, Z01, Z02, Z00, Z04, Z05, Z03, Z1z, Z1y, Z46, Z48, Z47, Z45, Z1n, Z1o, Z1m, Z3n, Z3k, Z3m, Z3l, Z3o, Z1l, Z29, Z32, Z3x, Z1i, Z1j, Z1k, Z3v, Z3w, Z1g, Z28, Z1h, Z3i, Z3f, Z3h, Z3g, Z3j, Z41, Z40, Z0t, Z0u, Z0v, Z0s, Z1f, Z4c, Z4b, Z4d, Z4a, Z49, ex, Z43, Z42, ev_t, ev_c, Z27, Z26, Z4e, Z4f, Z2m, Z2l, Z2f, Z2j, Z2k, Z2g, Z2h, Z2i, putc, exBslice, lfill, exField, exIdxV, exIdxP, exBox, exAlloc, exLoad, exStore, exFieldA, exIdxA, exLen, exPick, exUn, exBeq, exMM, exSeq, seqGo, exExt, binV, intOp, subc, AV.solid, S0, encI, encB, c_path_Write, encIs, h1, hr]
    exact .nil true false (by simp)
  by_cases h2 : (signs.length : Int) ≤ place
  · have hr : writeS signs place = [] := by rw [writeS, if_neg (by omega)]
    simp [Z0h, Z0c, Z0d, Z09, Z0a, Z0i, Z0b, Z0f, Z0g, Z2z, Z2y, Z07, Z08, Z06, Z01, Z02, Z00, Z04, Z05, Z03, Z1z, Z1y, Z46, Z48, Z47, Z45, Z1n, Z1o, Z1m, Z3n, Z3k, Z3m, Z3l, Z3o, Z1l, Z29, Z32, Z3x, Z1i, Z1j, Z1k, Z3v, Z3w, Z1g, Z28, Z1h, Z3i, Z3f, Z3h, Z3g, Z3j, Z41, Z40, Z0t, Z0u, Z0v, Z0s, Z1f, Z4c, Z4b, Z4d, Z4a, Z49, ex, Z43, Z42, ev_t, ev_c, Z27, Z26, Z4e, Z4f, Z2m, Z2l, Z2f, Z2j, Z2k, Z2g, Z2h, Z2i, putc, exBslice, lfill, exField, exIdxV, exIdxP, exBox, exAlloc, exLoad, exStore, exFieldA, exIdxA, exLen, exPick, exUn, exBeq, exMM, exSeq, seqGo, exExt, binV, intOp, subc, AV.solid, S0, encI, encB, c_path_Write, encIs, h1, h2, hr]
    exact .nil true false (by simp)
  simp [Z0h, Z0c, Z0d, Z09, Z0a, Z0i, Z0b, Z0f, Z0g, Z2z, Z2y, Z07, Z08, Z06, Z01, Z02, Z00, Z04, Z05, Z03, Z1z, Z1y, Z46, Z48, Z47, Z45, Z1n, Z1o, Z1m, Z3n, Z3k, Z3m, Z3l, Z3o, Z1l, Z29, Z32, Z3x, Z1i, Z1j, Z1k, Z3v, Z3w, Z1g, Z28, Z1h, Z3i, Z3f, Z3h, Z3g, Z3j, Z41, Z40, Z0t, Z0u, Z0v, Z0s, Z1f, Z4c, Z4b, Z4d, Z4a, Z49, ex, Z43, Z42, ev_t, ev_c, Z27, Z26, Z4e, Z4f, Z2m, Z2l, Z2f, Z2j, Z2k, Z2g, Z2h, Z2i, putc, exBslice, lfill, exField, exIdxV, exIdxP, exBox, exAlloc, exLoad, exStore, exFieldA, exIdxA, exLen, exPick, exUn, exBeq, exMM, exSeq, seqGo, exExt, binV, intOp, subc, AV.solid, S0, encI, encB, c_path_Write, encIs, h1, h2]
  refine CallR.pure hc (cl_cons (Z2s signs) (cl_cons (.clo _ _ _ cl_nil cl_nil) cl_nil)) (Z2o _) ?_
  cases hany : signs.any oddS with
  | true =>
    have hr : writeS signs place = [] := by rw [writeS, if_neg (by simp [hany])]
    simp [Z0h, Z0c, Z0d, Z09, Z0a, Z0i, Z0b, Z0f, Z0g, Z2z, Z2y, Z07, Z08, Z06, Z01, Z02, Z00, Z04, Z05, Z03, Z1z, Z1y, Z46, Z48, Z47, Z45, Z1n, Z1o, Z1m, Z3n, Z3k, Z3m, Z3l, Z3o, Z1l, Z29, Z32, Z3x, Z1i, Z1j, Z1k, Z3v, Z3w, Z1g, Z28, Z1h, Z3i, Z3f, Z3h, Z3g, Z3j, Z41, Z40, Z0t, Z0u, Z0v, Z0s, Z1f, Z4c, Z4b, Z4d, Z4a, Z49, ex, Z43, Z42, ev_t, ev_c, Z27, Z26, Z4e, Z4f, Z2m, Z2l, Z2f, Z2j, Z2k, Z2g, Z2h, Z2i, putc, exBslice, lfill, exField, exIdxV, exIdxP, exBox, exAlloc, exLoad, exStore, exFieldA, exIdxA, exLen, exPick, exUn, exBeq, exMM, exSeq, seqGo, exExt, binV, intOp, subc, AV.solid, S0, encI, encB, hr]
    exact .nil true false (by simp)
  | false =>
    have hr : writeS signs place = wrL place 0 signs := by rw [writeS, if_pos ⟨by omega, by omega, hany⟩]
    simp [Z0h, Z0c, Z0d, Z09, Z0a, Z0i, Z0b, Z0f, Z0g, Z2z, Z2y, Z07, Z08, Z06, Z01, Z02, Z00, Z04, Z05, Z03, Z1z, Z1y, Z46, Z48, Z47, Z45, Z1n, Z1o, Z1m, Z3n, Z3k, Z3m, Z3l, Z3o, Z1l, Z29, Z32, Z3x, Z1i, Z1j, Z1k, Z3v, Z3w, Z1g, Z28, Z1h, Z3i, Z3f, Z3h, Z3g, Z3j, Z41, Z40, Z0t, Z0u, Z0v, Z0s, Z1f, Z4c, Z4b, Z4d, Z4a, Z49, ex, Z43, Z42, ev_t, ev_c, Z27, Z26, Z4e, Z4f, Z2m, Z2l, Z2f, Z2j, Z2k, Z2g, Z2h, Z2i, putc, exBslice, lfill, exField, exIdxV, exIdxP, exBox, exAlloc, exLoad, exStore, exFieldA, exIdxA, exLen, exPick, exUn, exBeq, exMM, exSeq, seqGo, exExt, binV, intOp, subc, AV.solid, S0, encI, encB, hr]
    refine AW_loop (wrJ signs place) signs.length ?_ ?_
    · refine ⟨0, by omega, by omega, ?_, ?_, ?_, ?_, ?_⟩ <;> simp [Z43, Z27, Z26, encI, encIs, wrL]
      exact .nil
    · rintro m f S ⟨i, hi, rfl, e24, e23, e22, e1, hv⟩
      by_cases hlt : i < signs.length
      · have hok : oddS signs[i] = false := by
          rw [List.any_eq_false] at hany
          simpa using hany _ (List.getElem_mem hlt)
        have hb : 0 ≤ signs[i] ∧ signs[i] ≤ 1048576 := by simp [oddS] at hok; omega
        have hlen : (wrL place 0 (signs.take i)).length = i := by rw [wrL_length]; simp; omega
        have happ := fun (n nid : Nat) (x : AV) (hx : x.cells.length = 1) => Vec.app (n := n) (nid := nid) (by_ := 8) hv (cells_I _) hx (appOk8 (by rw [List.length_map, hlen]; omega))
        have hnx : ∀ (v : Int) (S' : St) (id : Nat), 2 * signs[i] + one1 place i = v → Vec (((St.without S' (f 6)).set id (some (.arr 1 ((wrL place 0 (signs.take i)).map encI ++ [encI v])))).g) (.own id 0 (i + 1)) 1 ((wrL place 0 (signs.take (i + 1))).map encI) := by
          intro v S' id hv'
          refine .mk' ?_ ?_
          · rw [wr_take _ _ _ hlt, hv']; simp [Z4e]
          · simp [wrL_length]; omega
        simp [Z0h, Z0c, Z0d, Z09, Z0a, Z0i, Z0b, Z0f, Z0g, Z2z, Z2y, Z07, Z08, Z06, Z01, Z02, Z00, Z04, Z05, Z03, Z1z, Z1y, Z46, Z48, Z47, Z45, Z1n, Z1o, Z1m, Z3n, Z3k, Z3m, Z3l, Z3o, Z1l, Z29, Z32, Z3x, Z1i, Z1j, Z1k, Z3v, Z3w, Z1g, Z28, Z1h, Z3i, Z3f, Z3h, Z3g, Z3j, Z41, Z40, Z0t, Z0u, Z0v, Z0s, Z1f, Z4c, Z4b, Z4d, Z4a, Z49, ex, Z43, Z42, ev_t, ev_c, Z27, Z26, Z4e, Z4f, Z2m, Z2l, Z2f, Z2j, Z2k, Z2g, Z2h, Z2i, putc, exBslice, lfill, exField, exIdxV, exIdxP, exBox, exAlloc, exLoad, exStore, exFieldA, exIdxA, exLen, exPick, exUn, exBeq, exMM, exSeq, seqGo, exExt, binV, intOp, subc, AV.solid, S0, encI, encB, e24, e23, e22, e1, encIs, hlt]
        rw [happ _ _ _ (by simp [AV.cells]), wrap_in _ (by omega)]
        by_cases h5 : (i : Int) = place
        · have hc5 : ((i : Int) == place) = true := by simpa using h5
          have hat : ((wrL place 0 (signs.take i)).map encI ++ [AV.v (.int .i64 (2 * signs[i]))])[i]? = some (AV.v (.int .i64 (2 * signs[i]))) := by
            rw [List.getElem?_append_right (by simp [hlen])]; simp [hlen]
          have hlt1 : (i : Int) < i + 1 := by omega
          simp [Z0h, Z0c, Z0d, Z09, Z0a, Z0i, Z0b, Z0f, Z0g, Z2z, Z2y, Z07, Z08, Z06, Z01, Z02, Z00, Z04, Z05, Z03, Z1z, Z1y, Z46, Z48, Z47, Z45, Z1n, Z1o, Z1m, Z3n, Z3k, Z3m, Z3l, Z3o, Z1l, Z29, Z32, Z3x, Z1i, Z1j, Z1k, Z3v, Z3w, Z1g, Z28, Z1h, Z3i, Z3f, Z3h, Z3g, Z3j, Z41, Z40, Z0t, Z0u, Z0v, Z0s, Z1f, Z4c, Z4b, Z4d, Z4a, Z49, ex, Z43, Z42, ev_t, ev_c, Z27, Z26, Z4e, Z4f, Z2m, Z2l, Z2f, Z2j, Z2k, Z2g, Z2h, Z2i, putc, exBslice, lfill, exField, exIdxV, exIdxP, exBox, exAlloc, exLoad, exStore, exFieldA, exIdxA, exLen, exPick, exUn, exBeq, exMM, exSeq, seqGo, exExt, binV, intOp, subc, AV.solid, S0, encI, encB, e24, e23, e22, e1, encIs, hc5, hlen, hat, hlt1]
          rw [wrap_in _ (by omega), wrap_in _ (by omega)]
          refine ⟨signs.length - (i + 1), by omega, i + 1, by omega, rfl, ?_, ?_, ?_, ?_, ?_⟩
          · simp [Z43, h5, encI]
          · simp [Z43, e23, encI]
          · simp [Z43, e22, encIs]
          · simp [Z43, e1]
          · simp only [Z43]
            simp only [Nat.reduceEqDiff, if_false, if_true]
            refine .mk' ?_ ?_
            · rw [wr_take _ _ _ hlt]; simp [Z4e, one1, h5, encI]
            · simp [wrL_length]; omega
        · have hc5 : ((i : Int) == place) = false := by simpa using h5
          simp [Z0h, Z0c, Z0d, Z09, Z0a, Z0i, Z0b, Z0f, Z0g, Z2z, Z2y, Z07, Z08, Z06, Z01, Z02, Z00, Z04, Z05, Z03, Z1z, Z1y, Z46, Z48, Z47, Z45, Z1n, Z1o, Z1m, Z3n, Z3k, Z3m, Z3l, Z3o, Z1l, Z29, Z32, Z3x, Z1i, Z1j, Z1k, Z3v, Z3w, Z1g, Z28, Z1h, Z3i, Z3f, Z3h, Z3g, Z3j, Z41, Z40, Z0t, Z0u, Z0v, Z0s, Z1f, Z4c, Z4b, Z4d, Z4a, Z49, ex, Z43, Z42, ev_t, ev_c, Z27, Z26, Z4e, Z4f, Z2m, Z2l, Z2f, Z2j, Z2k, Z2g, Z2h, Z2i, putc, exBslice, lfill, exField, exIdxV, exIdxP, exBox, exAlloc, exLoad, exStore, exFieldA, exIdxA, exLen, exPick, exUn, exBeq, exMM, exSeq, seqGo, exExt, binV, intOp, subc, AV.solid, S0, encI, encB, e24, e23, e22, e1, encIs, hc5]
          rw [wrap_in _ (by omega)]
          refine ⟨signs.length - (i + 1), by omega, i + 1, by omega, rfl, ?_, ?_, ?_, ?_, ?_⟩
          · simp [Z43, encI]
          · simp [Z43, e23, encI]
          · simp [Z43, e22, encIs]
          · simp [Z43, e1]
          · simp only [Z43]
            simp only [Nat.reduceEqDiff, if_false, if_true]
            have := hnx (2 * signs[i]) ⟨S.n + 1 + 5 + 6, S.g⟩ (S.n + 1 + 5 + 4) (by simp [one1, h5])
            rw [hlen]
            exact this
      · have hin : i = signs.length := by omega
        subst hin
        rw [List.take_of_length_le (Nat.le_refl _)] at hv
        simp [Z0h, Z0c, Z0d, Z09, Z0a, Z0i, Z0b, Z0f, Z0g, Z2z, Z2y, Z07, Z08, Z06, Z01, Z02, Z00, Z04, Z05, Z03, Z1z, Z1y, Z46, Z48, Z47, Z45, Z1n, Z1o, Z1m, Z3n, Z3k, Z3m, Z3l, Z3o, Z1l, Z29, Z32, Z3x, Z1i, Z1j, Z1k, Z3v, Z3w, Z1g, Z28, Z1h, Z3i, Z3f, Z3h, Z3g, Z3j, Z41, Z40, Z0t, Z0u, Z0v, Z0s, Z1f, Z4c, Z4b, Z4d, Z4a, Z49, ex, Z43, Z42, ev_t, ev_c, Z27, Z26, Z4e, Z4f, Z2m, Z2l, Z2f, Z2j, Z2k, Z2g, Z2h, Z2i, putc, exBslice, lfill, exField, exIdxV, exIdxP, exBox, exAlloc, exLoad, exStore, exFieldA, exIdxA, exLen, exPick, exUn, exBeq, exMM, exSeq, seqGo, exExt, binV, intOp, subc, AV.solid, S0, encI, encB, e24, e23, e22, e1, encIs]
        exact hv.fzN
theorem path_Write_body {P : Program} {f1 fc : FuncId} (signs : List Int) (place : Int) (hl : signs.length ≤ 1000000)
    (hc : PureC P fc [encIs signs, .clo f1 [] []] (encB (signs.any oddS))) : AW P (c_path_Write f1 fc) (RetK [4] (FzK (encIs (writeS signs place)))) (argF [encIs signs, encI place]) S0 :=
  AW_mono _ (fun e a S h => RetK_mono (fun r S h => h.fz) h) (path_Write_bodyN signs place hl hc)
end Go.Rf

