import Derived.Test.YtpinfihfbjkijaaDoorRfNb
import Derived.Test.YtpinfihfbjkijaaDoorRfE8
import Derived.Test.YtpinfihfbjkijaaDoorRfF1
/- Own work: the document's making of sets. -/
set_option linter.unusedVariables false
set_option linter.unusedSimpArgs false
namespace Go.Rf
open Go.RowKit
def c_caesuraref15_ends (f_caesuraref15_has : FuncId) : AC :=
  (.seq (.reg none [
   ⟨(some 2), .box 4 (.t 0), none, none⟩,
   ⟨(some 4), .mv (.c (.v (.bool false))), none, none⟩])
  (.seq (.seq (.reg none [
   ⟨(some 5), .mv (.c (.v (.int .i64 0))), none, none⟩])
  (.block 0 (.loop (.seq (.seq (.reg none [
     ⟨(some 6), .mv (.t 5), none, none⟩,
     ⟨(some 7), .mv (.t 1), none, none⟩,
     ⟨(some 8), .len (.t 7), none, none⟩,
     ⟨(some 9), .bin .lss (.t 6) (.t 8), none, none⟩])
    (.cond (.t 9) .skip (.exit 0)))
    (.seq (.block 1 (.seq (.reg (some []) [
      ⟨(some 12), .fieldA 3 (.t 2), none, none⟩,
      ⟨(some 13), .load none (.t 12), none, none⟩,
      ⟨(some 14), .mv (.t 1), none, none⟩,
      ⟨(some 15), .mv (.t 5), none, none⟩,
      ⟨(some 16), .idxA 1 (.t 14) (.t 15), none, none⟩,
      ⟨(some 17), .load none (.t 16), none, none⟩,
      ⟨(some 18), .mv (.c .junk), none, (some ((.c (.clo f_caesuraref15_has [] [])), [(.t 13), (.t 17)]))⟩])
     (.cond (.t 18) (.seq (.reg none [
       ⟨(some 4), .mv (.c (.v (.bool true))), none, none⟩])
      .ret) .skip)))
    (.reg none [
     ⟨(some 10), .mv (.t 5), none, none⟩,
     ⟨(some 11), .bin .add (.t 10) (.c (.v (.int .i64 1))), none, none⟩,
     ⟨(some 5), .mv (.t 11), none, none⟩]))))))
  (.seq (.reg none [
   ⟨(some 4), .mv (.c (.v (.bool false))), none, none⟩])
  .ret)))
def c_caesuraref15_behind (f_caesuraref15_ends f_caesuraref13_Step f_caesuraref15_put : FuncId) : AC :=
  (.seq (.reg none [
   ⟨(some 4), .box 4 (.t 0), none, none⟩,
   ⟨(some 8), .mv (.c (.sl true [])), none, none⟩])
  (.seq (.seq (.reg none [
   ⟨(some 10), .mv (.t 3), none, none⟩,
   ⟨(some 11), .bin .eql (.t 10) (.c (.v (.int .i64 2))), none, none⟩,
   ⟨(some 12), .mv (.t 11), none, none⟩,
   ⟨(some 13), .load (some 4) (.t 4), (some (12, true)), none⟩,
   ⟨(some 14), .mv (.t 1), (some (12, true)), none⟩,
   ⟨(some 15), .mv (.c .junk), (some (12, true)), (some ((.c (.clo f_caesuraref15_ends [] [])), [(.t 13), (.t 14)]))⟩,
   ⟨(some 16), .pick (.t 12) (.t 15) (.c (.v (.bool false))), none, none⟩])
  (.cond (.t 16) (.seq (.reg none [
    ⟨(some 17), .mv (.t 1), none, none⟩,
    ⟨(some 8), .mv (.t 17), none, none⟩])
   .ret) .skip))
  (.seq (.reg none [
   ⟨(some 18), .load (some 4) (.t 4), none, none⟩,
   ⟨(some 19), .mv (.t 1), none, none⟩,
   ⟨(some 20), .mv (.t 2), none, none⟩,
   ⟨(some 21), .mv (.c .junk), none, (some ((.c (.clo f_caesuraref13_Step [] [])), [(.t 18), (.t 19), (.t 20)]))⟩,
   ⟨(some 9), .mv (.t 21), none, none⟩])
  (.seq (.seq (.reg none [
   ⟨(some 22), .mv (.t 3), none, none⟩,
   ⟨(some 23), .bin .eql (.t 22) (.c (.v (.int .i64 1))), none, none⟩])
  (.cond (.t 23) (.reg none [
    ⟨(some 24), .mv (.t 9), none, none⟩,
    ⟨(some 25), .mv (.c .junk), none, (some ((.c (.clo f_caesuraref15_put [] [])), [(.t 24), (.c (.v (.int .i64 0)))]))⟩,
    ⟨(some 9), .mv (.t 25), none, none⟩]) .skip))
  (.seq (.reg none [
   ⟨(some 26), .mv (.t 9), none, none⟩,
   ⟨(some 8), .mv (.t 26), none, none⟩])
  .ret)))))
def c_md_find (f_caesuraref01_Ints : FuncId) : AC :=
  (.block 4 (.loop (.seq (.seq (.reg none [
           ⟨(some 52), .mv (.t 14), none, none⟩,
           ⟨(some 53), .mv (.t 8), none, none⟩,
           ⟨(some 54), .len (.t 53), none, none⟩,
           ⟨(some 55), .bin .lss (.t 52) (.t 54), none, none⟩,
           ⟨(some 56), .mv (.t 55), none, none⟩,
           ⟨(some 57), .mv (.t 8), (some (56, true)), none⟩,
           ⟨(some 58), .mv (.t 14), (some (56, true)), none⟩,
           ⟨(some 59), .idxA 1 (.t 57) (.t 58), (some (56, true)), none⟩,
           ⟨(some 60), .load none (.t 59), (some (56, true)), none⟩,
           ⟨(some 61), .mv (.t 13), (some (56, true)), none⟩,
           ⟨(some 62), .mv (.c .junk), (some (56, true)), (some ((.c (.clo f_caesuraref01_Ints [] [])), [(.t 60), (.t 61)]))⟩,
           ⟨(some 63), .un .not (.t 62), (some (56, true)), none⟩,
           ⟨(some 64), .pick (.t 56) (.t 63) (.c (.v (.bool false))), none, none⟩])
          (.cond (.t 64) .skip (.exit 4)))
          (.block 5 (.reg none [
            ⟨(some 65), .mv (.t 14), none, none⟩,
            ⟨(some 66), .bin .add (.t 65) (.c (.v (.int .i64 1))), none, none⟩,
            ⟨(some 14), .mv (.t 66), none, none⟩])))))
def c_md_row (f_caesuraref15_behind f_caesuraref01_Ints : FuncId) : AC :=
  (.block 2 (.loop (.seq (.seq (.reg none [
        ⟨(some 38), .mv (.t 12), none, none⟩,
        ⟨(some 39), .fieldA 0 (.t 3), none, none⟩,
        ⟨(some 40), .load none (.t 39), none, none⟩,
        ⟨(some 41), .bin .lss (.t 38) (.t 40), none, none⟩])
       (.cond (.t 41) .skip (.exit 2)))
       (.seq (.block 3 (.seq (.reg (some []) [
         ⟨(some 44), .load (some 4) (.t 3), none, none⟩,
         ⟨(some 45), .mv (.t 8), none, none⟩,
         ⟨(some 46), .mv (.t 10), none, none⟩,
         ⟨(some 47), .idxA 1 (.t 45) (.t 46), none, none⟩,
         ⟨(some 48), .load none (.t 47), none, none⟩,
         ⟨(some 49), .mv (.t 12), none, none⟩,
         ⟨(some 50), .mv (.t 2), none, none⟩,
         ⟨(some 51), .mv (.c .junk), none, (some ((.c (.clo f_caesuraref15_behind [] [])), [(.t 44), (.t 48), (.t 49), (.t 50)]))⟩,
         ⟨(some 13), .mv (.t 51), none, none⟩])
        (.seq (.reg none [
         ⟨(some 14), .mv (.c (.v (.int .i64 0))), none, none⟩])
        (.seq (c_md_find f_caesuraref01_Ints)
        (.seq (.seq (.reg none [
         ⟨(some 67), .mv (.t 14), none, none⟩,
         ⟨(some 68), .mv (.t 8), none, none⟩,
         ⟨(some 69), .len (.t 68), none, none⟩,
         ⟨(some 70), .bin .eql (.t 67) (.t 69), none, none⟩])
        (.cond (.t 70) (.seq (.seq (.reg none [
          ⟨(some 71), .mv (.t 14), none, none⟩,
          ⟨(some 72), .mv (.t 1), none, none⟩,
          ⟨(some 73), .bin .eql (.t 71) (.t 72), none, none⟩])
         (.cond (.t 73) (.seq (.reg none [
           ⟨(some 74), .build (.agg [(.v (.int .i64 0)), (.sl true []), (.sl true [])]) [] [], none, none⟩,
           ⟨none, .store 3 (.t 6) (.t 74), none, none⟩,
           ⟨(some 7), .mv (.c (.v (.int .i64 13))), none, none⟩])
          .ret) .skip))
         (.reg none [
          ⟨(some 75), .mv (.t 8), none, none⟩,
          ⟨(some 76), .mv (.t 13), none, none⟩,
          ⟨(some 77), .bslice 1 1 (.sl true []) [(0, (.t 76))], none, none⟩,
          ⟨(some 78), .app 1 24 (.t 75) (.t 77), none, none⟩,
          ⟨(some 8), .mv (.t 78), none, none⟩])) .skip))
        (.reg none [
         ⟨(some 79), .mv (.t 11), none, none⟩,
         ⟨(some 80), .mv (.t 14), none, none⟩,
         ⟨(some 81), .bslice 1 1 (.v (.int .i64 0)) [(0, (.t 80))], none, none⟩,
         ⟨(some 82), .app 1 8 (.t 79) (.t 81), none, none⟩,
         ⟨(some 11), .mv (.t 82), none, none⟩]))))))
       (.reg none [
        ⟨(some 42), .mv (.t 12), none, none⟩,
        ⟨(some 43), .bin .add (.t 42) (.c (.v (.int .i64 1))), none, none⟩,
        ⟨(some 12), .mv (.t 43), none, none⟩])))))
def c_md_last (f_caesuraref15_ends : FuncId) : AC :=
  (.reg (some [[], [], [], [], [], [true], [false, true], [false, false, true], [false, false, false, true], [false, false, false, false, true], [false, false, false, false, false, true], [false, false, false, false, false, false, true], [], [], [], [true]]) [
      ⟨(some 83), .fieldA 1 (.t 9), none, none⟩,
      ⟨(some 84), .load none (.t 83), none, none⟩,
      ⟨(some 85), .mv (.t 11), none, none⟩,
      ⟨(some 86), .bslice 1 1 (.sl true []) [(0, (.t 85))], none, none⟩,
      ⟨(some 87), .app 1 24 (.t 84) (.t 86), none, none⟩,
      ⟨(some 88), .fieldA 2 (.t 9), none, none⟩,
      ⟨(some 89), .load none (.t 88), none, none⟩,
      ⟨(some 90), .load (some 4) (.t 3), none, none⟩,
      ⟨(some 91), .mv (.t 8), none, none⟩,
      ⟨(some 92), .mv (.t 10), none, none⟩,
      ⟨(some 93), .idxA 1 (.t 91) (.t 92), none, none⟩,
      ⟨(some 94), .load none (.t 93), none, none⟩,
      ⟨(some 95), .mv (.c .junk), none, (some ((.c (.clo f_caesuraref15_ends [] [])), [(.t 90), (.t 94)]))⟩,
      ⟨(some 96), .bslice 1 1 (.v (.bool false)) [(0, (.t 95))], none, none⟩,
      ⟨(some 97), .app 1 1 (.t 89) (.t 96), none, none⟩,
      ⟨(some 98), .fieldA 1 (.t 9), none, none⟩,
      ⟨none, .store 1 (.t 98) (.t 87), none, none⟩,
      ⟨(some 99), .fieldA 2 (.t 9), none, none⟩,
      ⟨none, .store 1 (.t 99) (.t 97), none, none⟩])
def c_md_out (f_caesuraref15_behind f_caesuraref01_Ints f_caesuraref15_ends : FuncId) : AC :=
  (.block 0 (.loop (.seq (.seq (.reg none [
     ⟨(some 32), .mv (.t 10), none, none⟩,
     ⟨(some 33), .mv (.t 8), none, none⟩,
     ⟨(some 34), .len (.t 33), none, none⟩,
     ⟨(some 35), .bin .lss (.t 32) (.t 34), none, none⟩])
    (.cond (.t 35) .skip (.exit 0)))
    (.seq (.block 1 (.seq (.reg none [
      ⟨(some 11), .mv (.c (.sl true [])), none, none⟩])
     (.seq (.seq (.reg none [
      ⟨(some 12), .mv (.c (.v (.int .i64 0))), none, none⟩])
     (c_md_row f_caesuraref15_behind f_caesuraref01_Ints))
     (c_md_last f_caesuraref15_ends))))
    (.reg none [
     ⟨(some 36), .mv (.t 10), none, none⟩,
     ⟨(some 37), .bin .add (.t 36) (.c (.v (.int .i64 1))), none, none⟩,
     ⟨(some 10), .mv (.t 37), none, none⟩])))))
def c_md_fin : AC :=
  (.seq (.reg none [
   ⟨(some 100), .load (some 3) (.t 9), none, none⟩,
   ⟨none, .store 3 (.t 6) (.t 100), none, none⟩,
   ⟨(some 7), .mv (.c (.v (.int .i64 0))), none, none⟩])
  .ret)
def c_caesuraref15_made (f_caesuraref13_Right f_caesuraref15_behind f_caesuraref01_Ints f_caesuraref15_ends : FuncId) : AC :=
  (.seq (.reg none [
   ⟨(some 3), .box 4 (.t 0), none, none⟩,
   ⟨(some 6), .alloc (.agg [(.v (.int .i64 0)), (.sl true []), (.sl true [])]) 3, none, none⟩,
   ⟨(some 7), .mv (.c (.v (.int .i64 0))), none, none⟩])
  (.seq (.seq (.reg none [
   ⟨(some 15), .load (some 4) (.t 3), none, none⟩,
   ⟨(some 16), .mv (.c .junk), none, (some ((.c (.clo f_caesuraref13_Right [] [])), [(.t 15)]))⟩,
   ⟨(some 17), .un .not (.t 16), none, none⟩,
   ⟨(some 18), .mv (.t 17), none, none⟩,
   ⟨(some 19), .mv (.t 1), (some (18, false)), none⟩,
   ⟨(some 20), .bin .lss (.t 19) (.c (.v (.int .i64 1))), (some (18, false)), none⟩,
   ⟨(some 21), .pick (.t 18) (.c (.v (.bool true))) (.t 20), none, none⟩,
   ⟨(some 22), .mv (.t 21), none, none⟩,
   ⟨(some 23), .mv (.t 1), (some (22, false)), none⟩,
   ⟨(some 24), .bin .gtr (.t 23) (.c (.v (.int .i64 3000))), (some (22, false)), none⟩,
   ⟨(some 25), .pick (.t 22) (.c (.v (.bool true))) (.t 24), none, none⟩])
  (.cond (.t 25) (.seq (.reg none [
    ⟨(some 26), .build (.agg [(.v (.int .i64 0)), (.sl true []), (.sl true [])]) [] [], none, none⟩,
    ⟨none, .store 3 (.t 6) (.t 26), none, none⟩,
    ⟨(some 7), .mv (.c (.v (.int .i64 1))), none, none⟩])
   .ret) .skip))
  (.seq (.reg none [
   ⟨(some 27), .bslice 1 1 (.v (.int .i64 0)) [(0, (.c (.v (.int .i64 0))))], none, none⟩,
   ⟨(some 28), .bslice 1 1 (.sl true []) [(0, (.t 27))], none, none⟩,
   ⟨(some 8), .mv (.t 28), none, none⟩])
  (.seq (.reg none [
   ⟨(some 29), .fieldA 0 (.t 3), none, none⟩,
   ⟨(some 30), .load none (.t 29), none, none⟩,
   ⟨(some 31), .build (.agg [(.v (.int .i64 0)), (.sl true []), (.sl true [])]) [(0, 1)] [(0, (.t 30))], none, none⟩,
   ⟨(some 9), .alloc (.agg [(.v (.int .i64 0)), (.sl true []), (.sl true [])]) 3, none, none⟩,
   ⟨none, .store 3 (.t 9) (.t 31), none, none⟩])
  (.seq (.seq (.reg none [
   ⟨(some 10), .mv (.c (.v (.int .i64 0))), none, none⟩])
  (c_md_out f_caesuraref15_behind f_caesuraref01_Ints f_caesuraref15_ends))
  c_md_fin)))))
def enI (n : Net) (set : List Int) (i : Nat) (_ : Unit) : Prop := (set.take i).any (fun s => n.last.contains s) = false
def enA (set : List Int) (i : Nat) (_ : Unit) : List (Nat × AV) := [(1, encIs set), (2, .ptr 0 0 0), (5, encI i)]
def nG (n : Net) (_ : Nat) (_ : Unit) : List (Nat × Option Blk) := [(0, some (.arr 4 [encNet n]))]
theorem ends15_body {P : Program} {fh : FuncId} (n : Net) (set : List Int) (hs : Len set) (hc : ∀ x, PureC P fh [encIs n.last, encI x] (encB (n.last.contains x))) :
    AWb P 0 (c_caesuraref15_ends fh) (RetK [4] (FzK (encB (endsB n set)))) (argF [encNet n, encIs set]) S0 := by
  unfold Len at hs
  have ec : (encNet n).cells = [encI n.signs, encIss n.by_, encIss n.follow, encIs n.last] := rfl
  have es : (encNet n).solid = true := rfl
  simp [AWb_seq, Z0o, Z0p, Z0l, Z0m, Z0t, Z0n, Z0r, Z0s, Z0q, Z28, Z27, Z2c, Z2d, Z3q, Z3r, Z3n, vIdx, Z5h, Z5g, Z5i, vApp, Z5e, Z4c, Z13, Z12, Z11, Z0z, Z0y, Z10, Z19, Z18, Z17, Z15, Z14, Z16, Z2n, Z2o, Z2l, Z2y, Z3c, Z3b, Z08, Z0a, Z07, Z01, Z03, Z00, Z05, Z06, Z04, Z26, Z25, Z4q, Z4s, Z4r, Z4p, Z1u, Z1v, Z1t, Z40, Z3x, Z3z, Z3y, Z41, Z1s, Z2j, Z3d, Z4f, Z1k, Z1l, Z1m, Z4d, Z4e, Z1i, Z2i, Z1j, Z3v, Z3s, Z3u, Z3t, Z3w, Z4l, Z4k, Z0v, Z0w, Z0x, Z0u, Z1h, Z4w, Z4v, Z4x, Z4u, Z4t, ex, Z4n, Z4m, ev_t, ev_c, Z2h, Z2g, Z4y, Z4z, Z2x, Z2w, Z2q, Z2u, Z2v, Z2r, Z2s, Z2t, putc, exBslice, lfill, exField, exIdxV, exIdxP, exBox, exAlloc, Z3o, Z3p, exStore, exFieldA, Z3h, Z3g, Z3m, Z3l, exPick, exUn, exBeq, exMM, exSeq, seqGo, exExt, binV, intOp, subc, Z5c, Z5b, Z59, Z5a, Z57, Z55, Z56, Z58, Z52, Z53, Z50, Z5d, S0, encI, encB, c_caesuraref15_ends, ec, es]
  refine AWb_for set.length (enI n set) (enA set) 3 (nG n) () rfl ?_ ?_
  · refine Abs.of [(0, 0)] [] (by omega) ⟨by simp, by simp⟩ ?_ ?_
    · simp [RenL_snoc, RenL.cl, RenV.cl, Z32, Z2z, Z33, Z34, Z30, Z36, Z35, Z31, Z37, Z38, Z1f, Z1e, Z1d, Z1b, Z1a, Z1c, Z1g, Z5m, Z5f, Z5j, Z4h, Z5l, Z5k, Z4i, Z1w, Z1x, Z24, Z22, Z23, Z21, Z20, Z1z, Z1y, Z4o, Z4n, Z4m, Z4y, Z4z, Z2c, Z2d, Z3q, Z3r, Z2h, Z2g, vV_t, vV_f, vB_t, vB_f, encI, encB, nG, RenL.cl, RenV.cl, closed_Net]
    · simp [RenL_snoc, RenL.cl, RenV.cl, Z32, Z2z, Z33, Z34, Z30, Z36, Z35, Z31, Z37, Z38, Z1f, Z1e, Z1d, Z1b, Z1a, Z1c, Z1g, Z5m, Z5f, Z5j, Z4h, Z5l, Z5k, Z4i, Z1w, Z1x, Z24, Z22, Z23, Z21, Z20, Z1z, Z1y, Z4o, Z4n, Z4m, Z4y, Z4z, Z2c, Z2d, Z3q, Z3r, Z2h, Z2g, vV_t, vV_f, vB_t, vB_f, encI, encB, enA, RenV.cl, Z33]
  · rintro i _ hi hI
    by_cases hlt : i < set.length
    · have hx := hc set[i]
      unfold enI at hI
      have htk := any_take_succ set (fun s => n.last.contains s) i hlt
      rw [hI] at htk
      cases hb : n.last.contains set[i] with
      | true =>
        have hr : endsB n set = true := by
          rw [endsB, ← List.take_append_drop (i + 1) set, List.any_append, htk, hb]; rfl
        rw [hb] at hx
        have D := fun n' g' => CallD.cd (S := ⟨n', g'⟩) hx (cl_cons (Z33 _) (cl_cons (Z32 _) cl_nil)) (Z2z _)
        simp only [encIs, encI, encB] at D
        simp [AWb_seq, Z0o, Z0p, Z0l, Z0m, Z0t, Z0n, Z0r, Z0s, Z0q, Z28, Z27, Z2c, Z2d, Z3q, Z3r, Z3n, vIdx, Z5h, Z5g, Z5i, vApp, Z5e, Z4c, Z13, Z12, Z11, Z0z, Z0y, Z10, Z19, Z18, Z17, Z15, Z14, Z16, Z2n, Z2o, Z2l, Z2y, Z3c, Z3b, Z08, Z0a, Z07, Z01, Z03, Z00, Z05, Z06, Z04, Z26, Z25, Z4q, Z4s, Z4r, Z4p, Z1u, Z1v, Z1t, Z40, Z3x, Z3z, Z3y, Z41, Z1s, Z2j, Z3d, Z4f, Z1k, Z1l, Z1m, Z4d, Z4e, Z1i, Z2i, Z1j, Z3v, Z3s, Z3u, Z3t, Z3w, Z4l, Z4k, Z0v, Z0w, Z0x, Z0u, Z1h, Z4w, Z4v, Z4x, Z4u, Z4t, ex, Z4n, Z4m, ev_t, ev_c, Z2h, Z2g, Z4y, Z4z, Z2x, Z2w, Z2q, Z2u, Z2v, Z2r, Z2s, Z2t, putc, exBslice, lfill, exField, exIdxV, exIdxP, exBox, exAlloc, Z3o, Z3p, exStore, exFieldA, Z3h, Z3g, Z3m, Z3l, exPick, exUn, exBeq, exMM, exSeq, seqGo, exExt, binV, intOp, subc, Z5c, Z5b, Z59, Z5a, Z57, Z55, Z56, Z58, Z52, Z53, Z50, Z5d, S0, encI, encB, enA, nG, encIs, hlt, ec]
        refine ⟨_, ⟨_, D _ _⟩, ?_⟩
        rw [hr]
        exact FzK_B true _
      | false =>
        rw [hb] at hx
        have D := fun n' g' => CallD.cd (S := ⟨n', g'⟩) hx (cl_cons (Z33 _) (cl_cons (Z32 _) cl_nil)) (Z2z _)
        simp only [encIs, encI, encB] at D
        simp [AWb_seq, Z0o, Z0p, Z0l, Z0m, Z0t, Z0n, Z0r, Z0s, Z0q, Z28, Z27, Z2c, Z2d, Z3q, Z3r, Z3n, vIdx, Z5h, Z5g, Z5i, vApp, Z5e, Z4c, Z13, Z12, Z11, Z0z, Z0y, Z10, Z19, Z18, Z17, Z15, Z14, Z16, Z2n, Z2o, Z2l, Z2y, Z3c, Z3b, Z08, Z0a, Z07, Z01, Z03, Z00, Z05, Z06, Z04, Z26, Z25, Z4q, Z4s, Z4r, Z4p, Z1u, Z1v, Z1t, Z40, Z3x, Z3z, Z3y, Z41, Z1s, Z2j, Z3d, Z4f, Z1k, Z1l, Z1m, Z4d, Z4e, Z1i, Z2i, Z1j, Z3v, Z3s, Z3u, Z3t, Z3w, Z4l, Z4k, Z0v, Z0w, Z0x, Z0u, Z1h, Z4w, Z4v, Z4x, Z4u, Z4t, ex, Z4n, Z4m, ev_t, ev_c, Z2h, Z2g, Z4y, Z4z, Z2x, Z2w, Z2q, Z2u, Z2v, Z2r, Z2s, Z2t, putc, exBslice, lfill, exField, exIdxV, exIdxP, exBox, exAlloc, Z3o, Z3p, exStore, exFieldA, Z3h, Z3g, Z3m, Z3l, exPick, exUn, exBeq, exMM, exSeq, seqGo, exExt, binV, intOp, subc, Z5c, Z5b, Z59, Z5a, Z57, Z55, Z56, Z58, Z52, Z53, Z50, Z5d, S0, encI, encB, enA, nG, encIs, hlt, ec]
        refine ⟨_, ⟨_, D _ _⟩, ?_⟩
        simp [AWb_seq, Z0o, Z0p, Z0l, Z0m, Z0t, Z0n, Z0r, Z0s, Z0q, Z28, Z27, Z2c, Z2d, Z3q, Z3r, Z3n, vIdx, Z5h, Z5g, Z5i, vApp, Z5e, Z4c, Z13, Z12, Z11, Z0z, Z0y, Z10, Z19, Z18, Z17, Z15, Z14, Z16, Z2n, Z2o, Z2l, Z2y, Z3c, Z3b, Z08, Z0a, Z07, Z01, Z03, Z00, Z05, Z06, Z04, Z26, Z25, Z4q, Z4s, Z4r, Z4p, Z1u, Z1v, Z1t, Z40, Z3x, Z3z, Z3y, Z41, Z1s, Z2j, Z3d, Z4f, Z1k, Z1l, Z1m, Z4d, Z4e, Z1i, Z2i, Z1j, Z3v, Z3s, Z3u, Z3t, Z3w, Z4l, Z4k, Z0v, Z0w, Z0x, Z0u, Z1h, Z4w, Z4v, Z4x, Z4u, Z4t, ex, Z4n, Z4m, ev_t, ev_c, Z2h, Z2g, Z4y, Z4z, Z2x, Z2w, Z2q, Z2u, Z2v, Z2r, Z2s, Z2t, putc, exBslice, lfill, exField, exIdxV, exIdxP, exBox, exAlloc, Z3o, Z3p, exStore, exFieldA, Z3h, Z3g, Z3m, Z3l, exPick, exUn, exBeq, exMM, exSeq, seqGo, exExt, binV, intOp, subc, Z5c, Z5b, Z59, Z5a, Z57, Z55, Z56, Z58, Z52, Z53, Z50, Z5d, S0, encI, encB]
        rw [wrap_in _ (by omega)]
        refine ⟨hlt, (), by unfold enI; rw [htk, hb]; rfl, Abs.of [(0, 0)] [] (by omega) ⟨by simp, by simp⟩ ?_ ?_⟩
        · simp [RenL_snoc, RenL.cl, RenV.cl, Z32, Z2z, Z33, Z34, Z30, Z36, Z35, Z31, Z37, Z38, Z1f, Z1e, Z1d, Z1b, Z1a, Z1c, Z1g, Z5m, Z5f, Z5j, Z4h, Z5l, Z5k, Z4i, Z1w, Z1x, Z24, Z22, Z23, Z21, Z20, Z1z, Z1y, Z4o, Z4n, Z4m, Z4y, Z4z, Z2c, Z2d, Z3q, Z3r, Z2h, Z2g, vV_t, vV_f, vB_t, vB_f, encI, encB, nG, RenL.cl, RenV.cl, closed_Net]
        · simp [RenL_snoc, RenL.cl, RenV.cl, Z32, Z2z, Z33, Z34, Z30, Z36, Z35, Z31, Z37, Z38, Z1f, Z1e, Z1d, Z1b, Z1a, Z1c, Z1g, Z5m, Z5f, Z5j, Z4h, Z5l, Z5k, Z4i, Z1w, Z1x, Z24, Z22, Z23, Z21, Z20, Z1z, Z1y, Z4o, Z4n, Z4m, Z4y, Z4z, Z2c, Z2d, Z3q, Z3r, Z2h, Z2g, vV_t, vV_f, vB_t, vB_f, encI, encB, enA, RenV.cl, Z33, Z36, encIs]
    · have hr : endsB n set = false := by
        have : set.take i = set := List.take_of_length_le (by omega)
        unfold enI at hI; rw [this] at hI; exact hI
      simp [AWb_seq, Z0o, Z0p, Z0l, Z0m, Z0t, Z0n, Z0r, Z0s, Z0q, Z28, Z27, Z2c, Z2d, Z3q, Z3r, Z3n, vIdx, Z5h, Z5g, Z5i, vApp, Z5e, Z4c, Z13, Z12, Z11, Z0z, Z0y, Z10, Z19, Z18, Z17, Z15, Z14, Z16, Z2n, Z2o, Z2l, Z2y, Z3c, Z3b, Z08, Z0a, Z07, Z01, Z03, Z00, Z05, Z06, Z04, Z26, Z25, Z4q, Z4s, Z4r, Z4p, Z1u, Z1v, Z1t, Z40, Z3x, Z3z, Z3y, Z41, Z1s, Z2j, Z3d, Z4f, Z1k, Z1l, Z1m, Z4d, Z4e, Z1i, Z2i, Z1j, Z3v, Z3s, Z3u, Z3t, Z3w, Z4l, Z4k, Z0v, Z0w, Z0x, Z0u, Z1h, Z4w, Z4v, Z4x, Z4u, Z4t, ex, Z4n, Z4m, ev_t, ev_c, Z2h, Z2g, Z4y, Z4z, Z2x, Z2w, Z2q, Z2u, Z2v, Z2r, Z2s, Z2t, putc, exBslice, lfill, exField, exIdxV, exIdxP, exBox, exAlloc, Z3o, Z3p, exStore, exFieldA, Z3h, Z3g, Z3m, Z3l, exPick, exUn, exBeq, exMM, exSeq, seqGo, exExt, binV, intOp, subc, Z5c, Z5b, Z59, Z5a, Z57, Z55, Z56, Z58, Z52, Z53, Z50, Z5d, S0, encI, encB, enA, nG, encIs, hlt, ec, hr]
      exact FzK_B false _
def kdI : Kd → Int
  | .whole => 0
  | .tails => 1
  | .heads => 2
theorem putF_zero {l : List Int} (h : ∀ x ∈ l, 1 ≤ x) : putF l 0 = 0 :: l := by
  cases l with
  | nil => rfl
  | cons x l =>
    have := h x (by simp)
    rw [putF, if_neg (by omega), if_neg (by omega)]
theorem behind15_body {P : Program} {fe fs fp : FuncId} (kd : Kd) {n : Net} (R : RightN n) (set : List Int) (s : Int) (he : PureC P fe [encNet n, encIs set] (encB (endsB n set)))
    (hs : PureC P fs [encNet n, encIs set, encI s] (encIs (stepN n set s))) (hp : ∀ l, l.length ≤ 1000 → PureC P fp [encIs l, encI 0] (encIs (putF l 0))) :
    AWb P 0 (c_caesuraref15_behind fe fs fp) (RetK [8] (FzK (encIs (bhS kd n set s)))) (argF [encNet n, encIs set, encI s, encI (kdI kd)]) S0 := by
  have ec : (encNet n).cells = [encI n.signs, encIss n.by_, encIss n.follow, encIs n.last] := rfl
  have en : AV.agg (encNet n).cells = encNet n := rfl
  have es : (encNet n).solid = true := rfl
  obtain ⟨hv1, hv2⟩ := step_val R set s
  have hpz := hp (stepN n set s) (by omega)
  rw [putF_zero (fun x hx => (hv1 x hx).1)] at hpz
  have c2 := cl_cons (closed_Net n) (cl_cons (Z33 set) cl_nil)
  have c3 := cl_cons (closed_Net n) (cl_cons (Z33 set) (cl_cons (Z32 s) cl_nil))
  cases kd with
  | whole =>
    simp only [kdI, bhS]
    simp [AWb_seq, Z0o, Z0p, Z0l, Z0m, Z0t, Z0n, Z0r, Z0s, Z0q, Z28, Z27, Z2c, Z2d, Z3q, Z3r, Z3n, vIdx, Z5h, Z5g, Z5i, vApp, Z5e, Z4c, Z13, Z12, Z11, Z0z, Z0y, Z10, Z19, Z18, Z17, Z15, Z14, Z16, Z2n, Z2o, Z2l, Z2y, Z3c, Z3b, Z08, Z0a, Z07, Z01, Z03, Z00, Z05, Z06, Z04, Z26, Z25, Z4q, Z4s, Z4r, Z4p, Z1u, Z1v, Z1t, Z40, Z3x, Z3z, Z3y, Z41, Z1s, Z2j, Z3d, Z4f, Z1k, Z1l, Z1m, Z4d, Z4e, Z1i, Z2i, Z1j, Z3v, Z3s, Z3u, Z3t, Z3w, Z4l, Z4k, Z0v, Z0w, Z0x, Z0u, Z1h, Z4w, Z4v, Z4x, Z4u, Z4t, ex, Z4n, Z4m, ev_t, ev_c, Z2h, Z2g, Z4y, Z4z, Z2x, Z2w, Z2q, Z2u, Z2v, Z2r, Z2s, Z2t, putc, exBslice, lfill, exField, exIdxV, exIdxP, exBox, exAlloc, Z3o, Z3p, exStore, exFieldA, Z3h, Z3g, Z3m, Z3l, exPick, exUn, exBeq, exMM, exSeq, seqGo, exExt, binV, intOp, subc, Z5c, Z5b, Z59, Z5a, Z57, Z55, Z56, Z58, Z52, Z53, Z50, Z5d, S0, encI, encB, c_caesuraref15_behind, es]
    simp only [ec] at en ⊢
    simp [AWb_seq, Z0o, Z0p, Z0l, Z0m, Z0t, Z0n, Z0r, Z0s, Z0q, Z28, Z27, Z2c, Z2d, Z3q, Z3r, Z3n, vIdx, Z5h, Z5g, Z5i, vApp, Z5e, Z4c, Z13, Z12, Z11, Z0z, Z0y, Z10, Z19, Z18, Z17, Z15, Z14, Z16, Z2n, Z2o, Z2l, Z2y, Z3c, Z3b, Z08, Z0a, Z07, Z01, Z03, Z00, Z05, Z06, Z04, Z26, Z25, Z4q, Z4s, Z4r, Z4p, Z1u, Z1v, Z1t, Z40, Z3x, Z3z, Z3y, Z41, Z1s, Z2j, Z3d, Z4f, Z1k, Z1l, Z1m, Z4d, Z4e, Z1i, Z2i, Z1j, Z3v, Z3s, Z3u, Z3t, Z3w, Z4l, Z4k, Z0v, Z0w, Z0x, Z0u, Z1h, Z4w, Z4v, Z4x, Z4u, Z4t, ex, Z4n, Z4m, ev_t, ev_c, Z2h, Z2g, Z4y, Z4z, Z2x, Z2w, Z2q, Z2u, Z2v, Z2r, Z2s, Z2t, putc, exBslice, lfill, exField, exIdxV, exIdxP, exBox, exAlloc, Z3o, Z3p, exStore, exFieldA, Z3h, Z3g, Z3m, Z3l, exPick, exUn, exBeq, exMM, exSeq, seqGo, exExt, binV, intOp, subc, Z5c, Z5b, Z59, Z5a, Z57, Z55, Z56, Z58, Z52, Z53, Z50, Z5d, S0, encI, encB, en]
    refine CallR.pure hs c3 (Z33 _) ?_
    simp [AWb_seq, Z0o, Z0p, Z0l, Z0m, Z0t, Z0n, Z0r, Z0s, Z0q, Z28, Z27, Z2c, Z2d, Z3q, Z3r, Z3n, vIdx, Z5h, Z5g, Z5i, vApp, Z5e, Z4c, Z13, Z12, Z11, Z0z, Z0y, Z10, Z19, Z18, Z17, Z15, Z14, Z16, Z2n, Z2o, Z2l, Z2y, Z3c, Z3b, Z08, Z0a, Z07, Z01, Z03, Z00, Z05, Z06, Z04, Z26, Z25, Z4q, Z4s, Z4r, Z4p, Z1u, Z1v, Z1t, Z40, Z3x, Z3z, Z3y, Z41, Z1s, Z2j, Z3d, Z4f, Z1k, Z1l, Z1m, Z4d, Z4e, Z1i, Z2i, Z1j, Z3v, Z3s, Z3u, Z3t, Z3w, Z4l, Z4k, Z0v, Z0w, Z0x, Z0u, Z1h, Z4w, Z4v, Z4x, Z4u, Z4t, ex, Z4n, Z4m, ev_t, ev_c, Z2h, Z2g, Z4y, Z4z, Z2x, Z2w, Z2q, Z2u, Z2v, Z2r, Z2s, Z2t, putc, exBslice, lfill, exField, exIdxV, exIdxP, exBox, exAlloc, Z3o, Z3p, exStore, exFieldA, Z3h, Z3g, Z3m, Z3l, exPick, exUn, exBeq, exMM, exSeq, seqGo, exExt, binV, intOp, subc, Z5c, Z5b, Z59, Z5a, Z57, Z55, Z56, Z58, Z52, Z53, Z50, Z5d, S0, encI, encB]
    exact .closed _ (Z33 _)
  | tails =>
    simp only [kdI, bhS]
    simp [AWb_seq, Z0o, Z0p, Z0l, Z0m, Z0t, Z0n, Z0r, Z0s, Z0q, Z28, Z27, Z2c, Z2d, Z3q, Z3r, Z3n, vIdx, Z5h, Z5g, Z5i, vApp, Z5e, Z4c, Z13, Z12, Z11, Z0z, Z0y, Z10, Z19, Z18, Z17, Z15, Z14, Z16, Z2n, Z2o, Z2l, Z2y, Z3c, Z3b, Z08, Z0a, Z07, Z01, Z03, Z00, Z05, Z06, Z04, Z26, Z25, Z4q, Z4s, Z4r, Z4p, Z1u, Z1v, Z1t, Z40, Z3x, Z3z, Z3y, Z41, Z1s, Z2j, Z3d, Z4f, Z1k, Z1l, Z1m, Z4d, Z4e, Z1i, Z2i, Z1j, Z3v, Z3s, Z3u, Z3t, Z3w, Z4l, Z4k, Z0v, Z0w, Z0x, Z0u, Z1h, Z4w, Z4v, Z4x, Z4u, Z4t, ex, Z4n, Z4m, ev_t, ev_c, Z2h, Z2g, Z4y, Z4z, Z2x, Z2w, Z2q, Z2u, Z2v, Z2r, Z2s, Z2t, putc, exBslice, lfill, exField, exIdxV, exIdxP, exBox, exAlloc, Z3o, Z3p, exStore, exFieldA, Z3h, Z3g, Z3m, Z3l, exPick, exUn, exBeq, exMM, exSeq, seqGo, exExt, binV, intOp, subc, Z5c, Z5b, Z59, Z5a, Z57, Z55, Z56, Z58, Z52, Z53, Z50, Z5d, S0, encI, encB, c_caesuraref15_behind, es]
    simp only [ec] at en ⊢
    simp [AWb_seq, Z0o, Z0p, Z0l, Z0m, Z0t, Z0n, Z0r, Z0s, Z0q, Z28, Z27, Z2c, Z2d, Z3q, Z3r, Z3n, vIdx, Z5h, Z5g, Z5i, vApp, Z5e, Z4c, Z13, Z12, Z11, Z0z, Z0y, Z10, Z19, Z18, Z17, Z15, Z14, Z16, Z2n, Z2o, Z2l, Z2y, Z3c, Z3b, Z08, Z0a, Z07, Z01, Z03, Z00, Z05, Z06, Z04, Z26, Z25, Z4q, Z4s, Z4r, Z4p, Z1u, Z1v, Z1t, Z40, Z3x, Z3z, Z3y, Z41, Z1s, Z2j, Z3d, Z4f, Z1k, Z1l, Z1m, Z4d, Z4e, Z1i, Z2i, Z1j, Z3v, Z3s, Z3u, Z3t, Z3w, Z4l, Z4k, Z0v, Z0w, Z0x, Z0u, Z1h, Z4w, Z4v, Z4x, Z4u, Z4t, ex, Z4n, Z4m, ev_t, ev_c, Z2h, Z2g, Z4y, Z4z, Z2x, Z2w, Z2q, Z2u, Z2v, Z2r, Z2s, Z2t, putc, exBslice, lfill, exField, exIdxV, exIdxP, exBox, exAlloc, Z3o, Z3p, exStore, exFieldA, Z3h, Z3g, Z3m, Z3l, exPick, exUn, exBeq, exMM, exSeq, seqGo, exExt, binV, intOp, subc, Z5c, Z5b, Z59, Z5a, Z57, Z55, Z56, Z58, Z52, Z53, Z50, Z5d, S0, encI, encB, en]
    refine CallR.pure hs c3 (Z33 _) ?_
    simp [AWb_seq, Z0o, Z0p, Z0l, Z0m, Z0t, Z0n, Z0r, Z0s, Z0q, Z28, Z27, Z2c, Z2d, Z3q, Z3r, Z3n, vIdx, Z5h, Z5g, Z5i, vApp, Z5e, Z4c, Z13, Z12, Z11, Z0z, Z0y, Z10, Z19, Z18, Z17, Z15, Z14, Z16, Z2n, Z2o, Z2l, Z2y, Z3c, Z3b, Z08, Z0a, Z07, Z01, Z03, Z00, Z05, Z06, Z04, Z26, Z25, Z4q, Z4s, Z4r, Z4p, Z1u, Z1v, Z1t, Z40, Z3x, Z3z, Z3y, Z41, Z1s, Z2j, Z3d, Z4f, Z1k, Z1l, Z1m, Z4d, Z4e, Z1i, Z2i, Z1j, Z3v, Z3s, Z3u, Z3t, Z3w, Z4l, Z4k, Z0v, Z0w, Z0x, Z0u, Z1h, Z4w, Z4v, Z4x, Z4u, Z4t, ex, Z4n, Z4m, ev_t, ev_c, Z2h, Z2g, Z4y, Z4z, Z2x, Z2w, Z2q, Z2u, Z2v, Z2r, Z2s, Z2t, putc, exBslice, lfill, exField, exIdxV, exIdxP, exBox, exAlloc, Z3o, Z3p, exStore, exFieldA, Z3h, Z3g, Z3m, Z3l, exPick, exUn, exBeq, exMM, exSeq, seqGo, exExt, binV, intOp, subc, Z5c, Z5b, Z59, Z5a, Z57, Z55, Z56, Z58, Z52, Z53, Z50, Z5d, S0, encI, encB]
    refine CallR.pure hpz (cl_cons (Z33 _) (cl_cons (Z32 _) cl_nil)) (Z33 _) ?_
    simp [AWb_seq, Z0o, Z0p, Z0l, Z0m, Z0t, Z0n, Z0r, Z0s, Z0q, Z28, Z27, Z2c, Z2d, Z3q, Z3r, Z3n, vIdx, Z5h, Z5g, Z5i, vApp, Z5e, Z4c, Z13, Z12, Z11, Z0z, Z0y, Z10, Z19, Z18, Z17, Z15, Z14, Z16, Z2n, Z2o, Z2l, Z2y, Z3c, Z3b, Z08, Z0a, Z07, Z01, Z03, Z00, Z05, Z06, Z04, Z26, Z25, Z4q, Z4s, Z4r, Z4p, Z1u, Z1v, Z1t, Z40, Z3x, Z3z, Z3y, Z41, Z1s, Z2j, Z3d, Z4f, Z1k, Z1l, Z1m, Z4d, Z4e, Z1i, Z2i, Z1j, Z3v, Z3s, Z3u, Z3t, Z3w, Z4l, Z4k, Z0v, Z0w, Z0x, Z0u, Z1h, Z4w, Z4v, Z4x, Z4u, Z4t, ex, Z4n, Z4m, ev_t, ev_c, Z2h, Z2g, Z4y, Z4z, Z2x, Z2w, Z2q, Z2u, Z2v, Z2r, Z2s, Z2t, putc, exBslice, lfill, exField, exIdxV, exIdxP, exBox, exAlloc, Z3o, Z3p, exStore, exFieldA, Z3h, Z3g, Z3m, Z3l, exPick, exUn, exBeq, exMM, exSeq, seqGo, exExt, binV, intOp, subc, Z5c, Z5b, Z59, Z5a, Z57, Z55, Z56, Z58, Z52, Z53, Z50, Z5d, S0, encI, encB]
    exact .closed _ (Z33 _)
  | heads =>
    simp only [kdI, bhS]
    simp [AWb_seq, Z0o, Z0p, Z0l, Z0m, Z0t, Z0n, Z0r, Z0s, Z0q, Z28, Z27, Z2c, Z2d, Z3q, Z3r, Z3n, vIdx, Z5h, Z5g, Z5i, vApp, Z5e, Z4c, Z13, Z12, Z11, Z0z, Z0y, Z10, Z19, Z18, Z17, Z15, Z14, Z16, Z2n, Z2o, Z2l, Z2y, Z3c, Z3b, Z08, Z0a, Z07, Z01, Z03, Z00, Z05, Z06, Z04, Z26, Z25, Z4q, Z4s, Z4r, Z4p, Z1u, Z1v, Z1t, Z40, Z3x, Z3z, Z3y, Z41, Z1s, Z2j, Z3d, Z4f, Z1k, Z1l, Z1m, Z4d, Z4e, Z1i, Z2i, Z1j, Z3v, Z3s, Z3u, Z3t, Z3w, Z4l, Z4k, Z0v, Z0w, Z0x, Z0u, Z1h, Z4w, Z4v, Z4x, Z4u, Z4t, ex, Z4n, Z4m, ev_t, ev_c, Z2h, Z2g, Z4y, Z4z, Z2x, Z2w, Z2q, Z2u, Z2v, Z2r, Z2s, Z2t, putc, exBslice, lfill, exField, exIdxV, exIdxP, exBox, exAlloc, Z3o, Z3p, exStore, exFieldA, Z3h, Z3g, Z3m, Z3l, exPick, exUn, exBeq, exMM, exSeq, seqGo, exExt, binV, intOp, subc, Z5c, Z5b, Z59, Z5a, Z57, Z55, Z56, Z58, Z52, Z53, Z50, Z5d, S0, encI, encB, c_caesuraref15_behind, es]
    simp only [ec] at en ⊢
    simp [AWb_seq, Z0o, Z0p, Z0l, Z0m, Z0t, Z0n, Z0r, Z0s, Z0q, Z28, Z27, Z2c, Z2d, Z3q, Z3r, Z3n, vIdx, Z5h, Z5g, Z5i, vApp, Z5e, Z4c, Z13, Z12, Z11, Z0z, Z0y, Z10, Z19, Z18, Z17, Z15, Z14, Z16, Z2n, Z2o, Z2l, Z2y, Z3c, Z3b, Z08, Z0a, Z07, Z01, Z03, Z00, Z05, Z06, Z04, Z26, Z25, Z4q, Z4s, Z4r, Z4p, Z1u, Z1v, Z1t, Z40, Z3x, Z3z, Z3y, Z41, Z1s, Z2j, Z3d, Z4f, Z1k, Z1l, Z1m, Z4d, Z4e, Z1i, Z2i, Z1j, Z3v, Z3s, Z3u, Z3t, Z3w, Z4l, Z4k, Z0v, Z0w, Z0x, Z0u, Z1h, Z4w, Z4v, Z4x, Z4u, Z4t, ex, Z4n, Z4m, ev_t, ev_c, Z2h, Z2g, Z4y, Z4z, Z2x, Z2w, Z2q, Z2u, Z2v, Z2r, Z2s, Z2t, putc, exBslice, lfill, exField, exIdxV, exIdxP, exBox, exAlloc, Z3o, Z3p, exStore, exFieldA, Z3h, Z3g, Z3m, Z3l, exPick, exUn, exBeq, exMM, exSeq, seqGo, exExt, binV, intOp, subc, Z5c, Z5b, Z59, Z5a, Z57, Z55, Z56, Z58, Z52, Z53, Z50, Z5d, S0, encI, encB, en]
    refine CallR.pure he c2 (Z2z _) ?_
    cases hb : endsB n set with
    | true =>
      simp [AWb_seq, Z0o, Z0p, Z0l, Z0m, Z0t, Z0n, Z0r, Z0s, Z0q, Z28, Z27, Z2c, Z2d, Z3q, Z3r, Z3n, vIdx, Z5h, Z5g, Z5i, vApp, Z5e, Z4c, Z13, Z12, Z11, Z0z, Z0y, Z10, Z19, Z18, Z17, Z15, Z14, Z16, Z2n, Z2o, Z2l, Z2y, Z3c, Z3b, Z08, Z0a, Z07, Z01, Z03, Z00, Z05, Z06, Z04, Z26, Z25, Z4q, Z4s, Z4r, Z4p, Z1u, Z1v, Z1t, Z40, Z3x, Z3z, Z3y, Z41, Z1s, Z2j, Z3d, Z4f, Z1k, Z1l, Z1m, Z4d, Z4e, Z1i, Z2i, Z1j, Z3v, Z3s, Z3u, Z3t, Z3w, Z4l, Z4k, Z0v, Z0w, Z0x, Z0u, Z1h, Z4w, Z4v, Z4x, Z4u, Z4t, ex, Z4n, Z4m, ev_t, ev_c, Z2h, Z2g, Z4y, Z4z, Z2x, Z2w, Z2q, Z2u, Z2v, Z2r, Z2s, Z2t, putc, exBslice, lfill, exField, exIdxV, exIdxP, exBox, exAlloc, Z3o, Z3p, exStore, exFieldA, Z3h, Z3g, Z3m, Z3l, exPick, exUn, exBeq, exMM, exSeq, seqGo, exExt, binV, intOp, subc, Z5c, Z5b, Z59, Z5a, Z57, Z55, Z56, Z58, Z52, Z53, Z50, Z5d, S0, encI, encB]
      exact .closed _ (Z33 _)
    | false =>
      simp [AWb_seq, Z0o, Z0p, Z0l, Z0m, Z0t, Z0n, Z0r, Z0s, Z0q, Z28, Z27, Z2c, Z2d, Z3q, Z3r, Z3n, vIdx, Z5h, Z5g, Z5i, vApp, Z5e, Z4c, Z13, Z12, Z11, Z0z, Z0y, Z10, Z19, Z18, Z17, Z15, Z14, Z16, Z2n, Z2o, Z2l, Z2y, Z3c, Z3b, Z08, Z0a, Z07, Z01, Z03, Z00, Z05, Z06, Z04, Z26, Z25, Z4q, Z4s, Z4r, Z4p, Z1u, Z1v, Z1t, Z40, Z3x, Z3z, Z3y, Z41, Z1s, Z2j, Z3d, Z4f, Z1k, Z1l, Z1m, Z4d, Z4e, Z1i, Z2i, Z1j, Z3v, Z3s, Z3u, Z3t, Z3w, Z4l, Z4k, Z0v, Z0w, Z0x, Z0u, Z1h, Z4w, Z4v, Z4x, Z4u, Z4t, ex, Z4n, Z4m, ev_t, ev_c, Z2h, Z2g, Z4y, Z4z, Z2x, Z2w, Z2q, Z2u, Z2v, Z2r, Z2s, Z2t, putc, exBslice, lfill, exField, exIdxV, exIdxP, exBox, exAlloc, Z3o, Z3p, exStore, exFieldA, Z3h, Z3g, Z3m, Z3l, exPick, exUn, exBeq, exMM, exSeq, seqGo, exExt, binV, intOp, subc, Z5c, Z5b, Z59, Z5a, Z57, Z55, Z56, Z58, Z52, Z53, Z50, Z5d, S0, encI, encB]
      simp only [ec] at en ⊢
      simp [AWb_seq, Z0o, Z0p, Z0l, Z0m, Z0t, Z0n, Z0r, Z0s, Z0q, Z28, Z27, Z2c, Z2d, Z3q, Z3r, Z3n, vIdx, Z5h, Z5g, Z5i, vApp, Z5e, Z4c, Z13, Z12, Z11, Z0z, Z0y, Z10, Z19, Z18, Z17, Z15, Z14, Z16, Z2n, Z2o, Z2l, Z2y, Z3c, Z3b, Z08, Z0a, Z07, Z01, Z03, Z00, Z05, Z06, Z04, Z26, Z25, Z4q, Z4s, Z4r, Z4p, Z1u, Z1v, Z1t, Z40, Z3x, Z3z, Z3y, Z41, Z1s, Z2j, Z3d, Z4f, Z1k, Z1l, Z1m, Z4d, Z4e, Z1i, Z2i, Z1j, Z3v, Z3s, Z3u, Z3t, Z3w, Z4l, Z4k, Z0v, Z0w, Z0x, Z0u, Z1h, Z4w, Z4v, Z4x, Z4u, Z4t, ex, Z4n, Z4m, ev_t, ev_c, Z2h, Z2g, Z4y, Z4z, Z2x, Z2w, Z2q, Z2u, Z2v, Z2r, Z2s, Z2t, putc, exBslice, lfill, exField, exIdxV, exIdxP, exBox, exAlloc, Z3o, Z3p, exStore, exFieldA, Z3h, Z3g, Z3m, Z3l, exPick, exUn, exBeq, exMM, exSeq, seqGo, exExt, binV, intOp, subc, Z5c, Z5b, Z59, Z5a, Z57, Z55, Z56, Z58, Z52, Z53, Z50, Z5d, S0, encI, encB, en]
      refine CallR.pure hs c3 (Z33 _) ?_
      simp [AWb_seq, Z0o, Z0p, Z0l, Z0m, Z0t, Z0n, Z0r, Z0s, Z0q, Z28, Z27, Z2c, Z2d, Z3q, Z3r, Z3n, vIdx, Z5h, Z5g, Z5i, vApp, Z5e, Z4c, Z13, Z12, Z11, Z0z, Z0y, Z10, Z19, Z18, Z17, Z15, Z14, Z16, Z2n, Z2o, Z2l, Z2y, Z3c, Z3b, Z08, Z0a, Z07, Z01, Z03, Z00, Z05, Z06, Z04, Z26, Z25, Z4q, Z4s, Z4r, Z4p, Z1u, Z1v, Z1t, Z40, Z3x, Z3z, Z3y, Z41, Z1s, Z2j, Z3d, Z4f, Z1k, Z1l, Z1m, Z4d, Z4e, Z1i, Z2i, Z1j, Z3v, Z3s, Z3u, Z3t, Z3w, Z4l, Z4k, Z0v, Z0w, Z0x, Z0u, Z1h, Z4w, Z4v, Z4x, Z4u, Z4t, ex, Z4n, Z4m, ev_t, ev_c, Z2h, Z2g, Z4y, Z4z, Z2x, Z2w, Z2q, Z2u, Z2v, Z2r, Z2s, Z2t, putc, exBslice, lfill, exField, exIdxV, exIdxP, exBox, exAlloc, Z3o, Z3p, exStore, exFieldA, Z3h, Z3g, Z3m, Z3l, exPick, exUn, exBeq, exMM, exSeq, seqGo, exExt, binV, intOp, subc, Z5c, Z5b, Z59, Z5a, Z57, Z55, Z56, Z58, Z52, Z53, Z50, Z5d, S0, encI, encB]
      exact .closed _ (Z33 _)
/-! ### the making -/
abbrev MdS := Sts × (Bool × Bool × Bool)
def dmI (kd : Kd) (n : Net) (most : Int) (i : Nat) (s : MdS) : Prop := stF kd n most i = some s.1 ∧ ∀ m, m < i → ∀ stm, stF kd n most m = some stm → m ≠ stm.1.length
def dmA (most kind : Int) (i : Nat) (ss : List (List Int)) (o : Bool) : List (Nat × AV) := [(1, encI most), (2, encI kind), (3, .ptr 0 0 0), (6, .ptr 1 0 0), (8, vV o 3 (ss.map encIs)), (9, .ptr 2 0 0), (10, encI i)]
def dmG (n : Net) (ss nx : List (List Int)) (en : List Bool) (o oN oE : Bool) : List (Nat × Option Blk) :=
  [(0, some (.arr 4 [encNet n])), (1, some (.arr 3 [zDet])), (2, some (.arr 3 [.agg [encI n.signs, vV oN 4 (nx.map encIs), vV oE 5 (en.map encB)]])), (3, vB o 1 (ss.map encIs)), (4, vB oN 1 (nx.map encIs)), (5, vB oE 1 (en.map encB))]
def dmOA (most kind : Int) (i : Nat) (s : MdS) : List (Nat × AV) := dmA most kind i s.1.1 s.2.1
def dmOG (n : Net) (_ : Nat) (s : MdS) : List (Nat × Option Blk) := dmG n s.1.1 s.1.2.1 s.1.2.2 s.2.1 s.2.2.1 s.2.2.2
theorem Fz.aggL {g : Nat → Option Blk} {a b : List AV} (h : FzL g a b) : Fz g (.agg a) (.agg b) := .agg _ _ h.1 h.2
theorem Fz.tupL {g : Nat → Option Blk} {a b : List AV} (h : FzL g a b) : Fz g (.tup a) (.tup b) := .tup _ _ h.1 h.2
theorem fz_nil {g : Nat → Option Blk} : Fz g (.sl true []) (.sl false []) := .loose true [] (.sl _ _ (by simp))
theorem fz_zDet (g : Nat → Option Blk) (e : Int) : Fz g (.tup [.agg [.v (.int .i64 0), .sl true [], .sl true []], .v (.int .i64 e)]) (encDE (⟨0, [], []⟩, e)) :=
  .tupL (.cons (.aggL (.cons (.closed _ (.v _)) (.cons fz_nil (.cons fz_nil .nil)))) (.cons (.closed _ (.v _)) .nil))
theorem idxOf_at {X : Type} [BEq X] [LawfulBEq X] {l : List X} {x : X} {j : Nat} (hj : j < l.length) (he : l[j] = x) (hn : x ∉ l.take j) : l.idxOf x = j := by
  have e : l = l.take j ++ (x :: l.drop (j + 1)) := by rw [← he, ← List.drop_eq_getElem_cons hj, List.take_append_drop]
  rw [e, List.idxOf_append, if_neg hn]
  simp; omega
abbrev MrS := (List (List Int) × List Int) × (Bool × Bool)
def dmRI (kd : Kd) (n : Net) (most : Int) (set : List Int) (ss0 : List (List Int)) (k : Nat) (s : MrS) : Prop := rowF most (bhS kd n set) k ss0 = some s.1 ∧ ∀ j (h : j < ss0.length), s.1.1[j]? = some ss0[j]
def dmRA (most kind : Int) (i : Nat) (k : Nat) (s : MrS) : List (Nat × AV) := (11, vV s.2.1 6 (s.1.2.map encI)) :: (12, encI k) :: dmA most kind i s.1.1 s.2.2
def dmRG (n : Net) (nx : List (List Int)) (en : List Bool) (oN oE : Bool) (_ : Nat) (s : MrS) : List (Nat × Option Blk) := (6, vB s.2.1 1 (s.1.2.map encI)) :: dmG n s.1.1 nx en s.2.2 oN oE
def dmFI (ss : List (List Int)) (to : List Int) (j : Nat) (_ : Unit) : Prop := to ∉ ss.take j
def dmFA (most kind : Int) (i k : Nat) (s : MrS) (to : List Int) (j : Nat) (_ : Unit) : List (Nat × AV) := (13, encIs to) :: (14, encI j) :: dmRA most kind i k s
def dmFG (n : Net) (nx : List (List Int)) (en : List Bool) (oN oE : Bool) (s : MrS) (_ : Nat) (_ : Unit) : List (Nat × Option Blk) := dmRG n nx en oN oE 0 s
theorem made15_body {P : Program} {fr fb fi fe : FuncId} (kd : Kd) (n : Net) (most : Int) (hr : PureC P fr [encNet n] (encB (rightN n)))
    (hb : RightN n → ∀ set s, Val n set → PureC P fb [encNet n, encIs set, encI s, encI (kdI kd)] (encIs (bhS kd n set s))) (hi : ∀ a b, Len a → Len b → PureC P fi [encIs a, encIs b] (encB (a == b)))
    (he : RightN n → ∀ set, Val n set → PureC P fe [encNet n, encIs set] (encB (endsB n set))) :
    AWb P 0 (c_caesuraref15_made fr fb fi fe) (RetC [.c 6 (some 3), .t 7] (FzK (encDE (resD kd n most)))) (argF [encNet n, encI most, encI (kdI kd)]) S0 := by
  have ec : (encNet n).cells = [encI n.signs, encIss n.by_, encIss n.follow, encIs n.last] := rfl
  have en : AV.agg (encNet n).cells = encNet n := rfl
  have es : (encNet n).solid = true := rfl
  simp [AWb_seq, Z0o, Z0p, Z0l, Z0m, Z0t, Z0n, Z0r, Z0s, Z0q, Z28, Z27, Z2c, Z2d, Z3q, Z3r, Z3n, vIdx, Z5h, Z5g, Z5i, vApp, Z5e, Z4c, Z13, Z12, Z11, Z0z, Z0y, Z10, Z19, Z18, Z17, Z15, Z14, Z16, Z2n, Z2o, Z2l, Z2y, Z3c, Z3b, Z08, Z0a, Z07, Z01, Z03, Z00, Z05, Z06, Z04, Z26, Z25, Z4q, Z4s, Z4r, Z4p, Z1u, Z1v, Z1t, Z40, Z3x, Z3z, Z3y, Z41, Z1s, Z2j, Z3d, Z4f, Z1k, Z1l, Z1m, Z4d, Z4e, Z1i, Z2i, Z1j, Z3v, Z3s, Z3u, Z3t, Z3w, Z4l, Z4k, Z0v, Z0w, Z0x, Z0u, Z1h, Z4w, Z4v, Z4x, Z4u, Z4t, ex, Z4n, Z4m, ev_t, ev_c, Z2h, Z2g, Z4y, Z4z, Z2x, Z2w, Z2q, Z2u, Z2v, Z2r, Z2s, Z2t, putc, exBslice, lfill, exField, exIdxV, exIdxP, exBox, exAlloc, Z3o, Z3p, exStore, exFieldA, Z3h, Z3g, Z3m, Z3l, exPick, exUn, exBeq, exMM, exSeq, seqGo, exExt, binV, intOp, subc, Z5c, Z5b, Z59, Z5a, Z57, Z55, Z56, Z58, Z52, Z53, Z50, Z5d, S0, encI, encB, c_caesuraref15_made, es]
  simp only [ec] at en ⊢
  simp [AWb_seq, Z0o, Z0p, Z0l, Z0m, Z0t, Z0n, Z0r, Z0s, Z0q, Z28, Z27, Z2c, Z2d, Z3q, Z3r, Z3n, vIdx, Z5h, Z5g, Z5i, vApp, Z5e, Z4c, Z13, Z12, Z11, Z0z, Z0y, Z10, Z19, Z18, Z17, Z15, Z14, Z16, Z2n, Z2o, Z2l, Z2y, Z3c, Z3b, Z08, Z0a, Z07, Z01, Z03, Z00, Z05, Z06, Z04, Z26, Z25, Z4q, Z4s, Z4r, Z4p, Z1u, Z1v, Z1t, Z40, Z3x, Z3z, Z3y, Z41, Z1s, Z2j, Z3d, Z4f, Z1k, Z1l, Z1m, Z4d, Z4e, Z1i, Z2i, Z1j, Z3v, Z3s, Z3u, Z3t, Z3w, Z4l, Z4k, Z0v, Z0w, Z0x, Z0u, Z1h, Z4w, Z4v, Z4x, Z4u, Z4t, ex, Z4n, Z4m, ev_t, ev_c, Z2h, Z2g, Z4y, Z4z, Z2x, Z2w, Z2q, Z2u, Z2v, Z2r, Z2s, Z2t, putc, exBslice, lfill, exField, exIdxV, exIdxP, exBox, exAlloc, Z3o, Z3p, exStore, exFieldA, Z3h, Z3g, Z3m, Z3l, exPick, exUn, exBeq, exMM, exSeq, seqGo, exExt, binV, intOp, subc, Z5c, Z5b, Z59, Z5a, Z57, Z55, Z56, Z58, Z52, Z53, Z50, Z5d, S0, encI, encB, en]
  refine CallR.pure hr (cl_cons (closed_Net n) cl_nil) (Z2z _) ?_
  cases hR : rightN n with
  | false =>
    have hres : resD kd n most = (⟨0, [], []⟩, 1) := by simp [resD, hR]
    rw [hres]
    simp [AWb_seq, Z0o, Z0p, Z0l, Z0m, Z0t, Z0n, Z0r, Z0s, Z0q, Z28, Z27, Z2c, Z2d, Z3q, Z3r, Z3n, vIdx, Z5h, Z5g, Z5i, vApp, Z5e, Z4c, Z13, Z12, Z11, Z0z, Z0y, Z10, Z19, Z18, Z17, Z15, Z14, Z16, Z2n, Z2o, Z2l, Z2y, Z3c, Z3b, Z08, Z0a, Z07, Z01, Z03, Z00, Z05, Z06, Z04, Z26, Z25, Z4q, Z4s, Z4r, Z4p, Z1u, Z1v, Z1t, Z40, Z3x, Z3z, Z3y, Z41, Z1s, Z2j, Z3d, Z4f, Z1k, Z1l, Z1m, Z4d, Z4e, Z1i, Z2i, Z1j, Z3v, Z3s, Z3u, Z3t, Z3w, Z4l, Z4k, Z0v, Z0w, Z0x, Z0u, Z1h, Z4w, Z4v, Z4x, Z4u, Z4t, ex, Z4n, Z4m, ev_t, ev_c, Z2h, Z2g, Z4y, Z4z, Z2x, Z2w, Z2q, Z2u, Z2v, Z2r, Z2s, Z2t, putc, exBslice, lfill, exField, exIdxV, exIdxP, exBox, exAlloc, Z3o, Z3p, exStore, exFieldA, Z3h, Z3g, Z3m, Z3l, exPick, exUn, exBeq, exMM, exSeq, seqGo, exExt, binV, intOp, subc, Z5c, Z5b, Z59, Z5a, Z57, Z55, Z56, Z58, Z52, Z53, Z50, Z5d, S0, encI, encB, RetC, evC, RV.ev, ldC, packC, exBuild, afill]
    exact fz_zDet _ 1
  | true =>
    have R := (rightN_iff n).mp hR
    by_cases h1 : most < 1
    · have hres : resD kd n most = (⟨0, [], []⟩, 1) := by rw [resD, if_neg (by omega)]
      rw [hres]
      simp [AWb_seq, Z0o, Z0p, Z0l, Z0m, Z0t, Z0n, Z0r, Z0s, Z0q, Z28, Z27, Z2c, Z2d, Z3q, Z3r, Z3n, vIdx, Z5h, Z5g, Z5i, vApp, Z5e, Z4c, Z13, Z12, Z11, Z0z, Z0y, Z10, Z19, Z18, Z17, Z15, Z14, Z16, Z2n, Z2o, Z2l, Z2y, Z3c, Z3b, Z08, Z0a, Z07, Z01, Z03, Z00, Z05, Z06, Z04, Z26, Z25, Z4q, Z4s, Z4r, Z4p, Z1u, Z1v, Z1t, Z40, Z3x, Z3z, Z3y, Z41, Z1s, Z2j, Z3d, Z4f, Z1k, Z1l, Z1m, Z4d, Z4e, Z1i, Z2i, Z1j, Z3v, Z3s, Z3u, Z3t, Z3w, Z4l, Z4k, Z0v, Z0w, Z0x, Z0u, Z1h, Z4w, Z4v, Z4x, Z4u, Z4t, ex, Z4n, Z4m, ev_t, ev_c, Z2h, Z2g, Z4y, Z4z, Z2x, Z2w, Z2q, Z2u, Z2v, Z2r, Z2s, Z2t, putc, exBslice, lfill, exField, exIdxV, exIdxP, exBox, exAlloc, Z3o, Z3p, exStore, exFieldA, Z3h, Z3g, Z3m, Z3l, exPick, exUn, exBeq, exMM, exSeq, seqGo, exExt, binV, intOp, subc, Z5c, Z5b, Z59, Z5a, Z57, Z55, Z56, Z58, Z52, Z53, Z50, Z5d, S0, encI, encB, h1, RetC, evC, RV.ev, ldC, packC, exBuild, afill]
      exact fz_zDet _ 1
    by_cases h3 : 3000 < most
    · have hres : resD kd n most = (⟨0, [], []⟩, 1) := by rw [resD, if_neg (by omega)]
      rw [hres]
      simp [AWb_seq, Z0o, Z0p, Z0l, Z0m, Z0t, Z0n, Z0r, Z0s, Z0q, Z28, Z27, Z2c, Z2d, Z3q, Z3r, Z3n, vIdx, Z5h, Z5g, Z5i, vApp, Z5e, Z4c, Z13, Z12, Z11, Z0z, Z0y, Z10, Z19, Z18, Z17, Z15, Z14, Z16, Z2n, Z2o, Z2l, Z2y, Z3c, Z3b, Z08, Z0a, Z07, Z01, Z03, Z00, Z05, Z06, Z04, Z26, Z25, Z4q, Z4s, Z4r, Z4p, Z1u, Z1v, Z1t, Z40, Z3x, Z3z, Z3y, Z41, Z1s, Z2j, Z3d, Z4f, Z1k, Z1l, Z1m, Z4d, Z4e, Z1i, Z2i, Z1j, Z3v, Z3s, Z3u, Z3t, Z3w, Z4l, Z4k, Z0v, Z0w, Z0x, Z0u, Z1h, Z4w, Z4v, Z4x, Z4u, Z4t, ex, Z4n, Z4m, ev_t, ev_c, Z2h, Z2g, Z4y, Z4z, Z2x, Z2w, Z2q, Z2u, Z2v, Z2r, Z2s, Z2t, putc, exBslice, lfill, exField, exIdxV, exIdxP, exBox, exAlloc, Z3o, Z3p, exStore, exFieldA, Z3h, Z3g, Z3m, Z3l, exPick, exUn, exBeq, exMM, exSeq, seqGo, exExt, binV, intOp, subc, Z5c, Z5b, Z59, Z5a, Z57, Z55, Z56, Z58, Z52, Z53, Z50, Z5d, S0, encI, encB, h1, h3, RetC, evC, RV.ev, ldC, packC, exBuild, afill]
      exact fz_zDet _ 1
    have hres : resD kd n most = (match dmakeF kd n most with | some st => (⟨n.signs, st.2.1, st.2.2⟩, 0) | none => (⟨0, [], []⟩, 13)) := by rw [resD, if_pos ⟨hR, by omega, by omega⟩]; cases dmakeF kd n most <;> rfl
    simp [AWb_seq, Z0o, Z0p, Z0l, Z0m, Z0t, Z0n, Z0r, Z0s, Z0q, Z28, Z27, Z2c, Z2d, Z3q, Z3r, Z3n, vIdx, Z5h, Z5g, Z5i, vApp, Z5e, Z4c, Z13, Z12, Z11, Z0z, Z0y, Z10, Z19, Z18, Z17, Z15, Z14, Z16, Z2n, Z2o, Z2l, Z2y, Z3c, Z3b, Z08, Z0a, Z07, Z01, Z03, Z00, Z05, Z06, Z04, Z26, Z25, Z4q, Z4s, Z4r, Z4p, Z1u, Z1v, Z1t, Z40, Z3x, Z3z, Z3y, Z41, Z1s, Z2j, Z3d, Z4f, Z1k, Z1l, Z1m, Z4d, Z4e, Z1i, Z2i, Z1j, Z3v, Z3s, Z3u, Z3t, Z3w, Z4l, Z4k, Z0v, Z0w, Z0x, Z0u, Z1h, Z4w, Z4v, Z4x, Z4u, Z4t, ex, Z4n, Z4m, ev_t, ev_c, Z2h, Z2g, Z4y, Z4z, Z2x, Z2w, Z2q, Z2u, Z2v, Z2r, Z2s, Z2t, putc, exBslice, lfill, exField, exIdxV, exIdxP, exBox, exAlloc, Z3o, Z3p, exStore, exFieldA, Z3h, Z3g, Z3m, Z3l, exPick, exUn, exBeq, exMM, exSeq, seqGo, exExt, binV, intOp, subc, Z5c, Z5b, Z59, Z5a, Z57, Z55, Z56, Z58, Z52, Z53, Z50, Z5d, S0, encI, encB, h1, h3, ec, exBuild, afill, c_md_out]
    refine AWb_for most.toNat (dmI kd n most) (dmOA most (kdI kd)) 10 (dmOG n) (([[0]], [], []), false, false, false) ⟨rfl, fun m hm => by omega⟩ ?_ ?_
    · refine Abs.of [(0, 0), (1, 1), (2, 20)] [] (by omega) ⟨by simp, by simp⟩ ?_ ?_
      · simp [RenL_snoc, RenL.cl, RenV.cl, Z32, Z2z, Z33, Z34, Z30, Z36, Z35, Z31, Z37, Z38, Z1f, Z1e, Z1d, Z1b, Z1a, Z1c, Z1g, Z5m, Z5f, Z5j, Z4h, Z5l, Z5k, Z4i, Z1w, Z1x, Z24, Z22, Z23, Z21, Z20, Z1z, Z1y, Z4o, Z4n, Z4m, Z4y, Z4z, Z2c, Z2d, Z3q, Z3r, Z2h, Z2g, vV_t, vV_f, vB_t, vB_f, encI, encB, dmOG, dmG, zDet, closed_Net]
      · simp [RenL_snoc, RenL.cl, RenV.cl, Z32, Z2z, Z33, Z34, Z30, Z36, Z35, Z31, Z37, Z38, Z1f, Z1e, Z1d, Z1b, Z1a, Z1c, Z1g, Z5m, Z5f, Z5j, Z4h, Z5l, Z5k, Z4i, Z1w, Z1x, Z24, Z22, Z23, Z21, Z20, Z1z, Z1y, Z4o, Z4n, Z4m, Z4y, Z4z, Z2c, Z2d, Z3q, Z3r, Z2h, Z2g, vV_t, vV_f, vB_t, vB_f, encI, encB, dmOA, dmA]
        exact .wk _ _ (.sl _ _ (cl_cons (.sl _ _ (cl_cons (Z32 _) cl_nil)) cl_nil)) (.slt _ _ _ rfl (WkL.cons (.sl _ _ _ rfl (WkL.refl _).2) WkL.nil).2)
    · rintro i ⟨⟨ss, nx, fin⟩, o, oN, oE⟩ hi' ⟨heq, hmin⟩
      simp only at heq hmin
      have ok := stF_ok R (by omega) i heq
      have hle := ok.le
      have hsl := ok.ss.l
      simp only at hle hsl
      have hs0 : (0 : Int) ≤ n.signs := by have := R.s1; omega
      by_cases hlt : i < ss.length
      · obtain ⟨set, hset⟩ : ∃ set, ss[i]? = some set := ⟨_, List.getElem?_eq_getElem hlt⟩
        have hvs : Val n set := ok.ss.v set (by obtain ⟨h1, h2⟩ := List.getElem?_eq_some_iff.mp hset; rw [← h2]; exact List.getElem_mem h1)
        have hnxt : stF kd n most (i + 1) = nxF kd n most i (ss, nx, fin) := by simp only [stF, heq]
        simp [AWb_seq, Z0o, Z0p, Z0l, Z0m, Z0t, Z0n, Z0r, Z0s, Z0q, Z28, Z27, Z2c, Z2d, Z3q, Z3r, Z3n, vIdx, Z5h, Z5g, Z5i, vApp, Z5e, Z4c, Z13, Z12, Z11, Z0z, Z0y, Z10, Z19, Z18, Z17, Z15, Z14, Z16, Z2n, Z2o, Z2l, Z2y, Z3c, Z3b, Z08, Z0a, Z07, Z01, Z03, Z00, Z05, Z06, Z04, Z26, Z25, Z4q, Z4s, Z4r, Z4p, Z1u, Z1v, Z1t, Z40, Z3x, Z3z, Z3y, Z41, Z1s, Z2j, Z3d, Z4f, Z1k, Z1l, Z1m, Z4d, Z4e, Z1i, Z2i, Z1j, Z3v, Z3s, Z3u, Z3t, Z3w, Z4l, Z4k, Z0v, Z0w, Z0x, Z0u, Z1h, Z4w, Z4v, Z4x, Z4u, Z4t, ex, Z4n, Z4m, ev_t, ev_c, Z2h, Z2g, Z4y, Z4z, Z2x, Z2w, Z2q, Z2u, Z2v, Z2r, Z2s, Z2t, putc, exBslice, lfill, exField, exIdxV, exIdxP, exBox, exAlloc, Z3o, Z3p, exStore, exFieldA, Z3h, Z3g, Z3m, Z3l, exPick, exUn, exBeq, exMM, exSeq, seqGo, exExt, binV, intOp, subc, Z5c, Z5b, Z59, Z5a, Z57, Z55, Z56, Z58, Z52, Z53, Z50, Z5d, S0, encI, encB, dmOA, dmA, dmOG, dmG, hlt, c_md_row]
        refine AWb_for n.signs.toNat (dmRI kd n most set ss) (dmRA most (kdI kd) i) 10 (dmRG n nx fin oN oE) ((ss, []), false, o) ⟨rfl, fun j hj => List.getElem?_eq_getElem hj⟩ ?_ ?_
        · refine Abs.of [(0, 0), (1, 1), (2, 2), (3, 3), (4, 4), (5, 5)] [] (by omega) ⟨by simp, by simp⟩ ?_ ?_
          · simp [RenL_snoc, RenL.cl, RenV.cl, Z32, Z2z, Z33, Z34, Z30, Z36, Z35, Z31, Z37, Z38, Z1f, Z1e, Z1d, Z1b, Z1a, Z1c, Z1g, Z5m, Z5f, Z5j, Z4h, Z5l, Z5k, Z4i, Z1w, Z1x, Z24, Z22, Z23, Z21, Z20, Z1z, Z1y, Z4o, Z4n, Z4m, Z4y, Z4z, Z2c, Z2d, Z3q, Z3r, Z2h, Z2g, vV_t, vV_f, vB_t, vB_f, encI, encB, dmRG, dmG, zDet, closed_Net]
          · simp [RenL_snoc, RenL.cl, RenV.cl, Z32, Z2z, Z33, Z34, Z30, Z36, Z35, Z31, Z37, Z38, Z1f, Z1e, Z1d, Z1b, Z1a, Z1c, Z1g, Z5m, Z5f, Z5j, Z4h, Z5l, Z5k, Z4i, Z1w, Z1x, Z24, Z22, Z23, Z21, Z20, Z1z, Z1y, Z4o, Z4n, Z4m, Z4y, Z4z, Z2c, Z2d, Z3q, Z3r, Z2h, Z2g, vV_t, vV_f, vB_t, vB_f, encI, encB, dmRA, dmA]
        · rintro k ⟨⟨ss1, r⟩, oR, o1⟩ hk ⟨hrow, hpre⟩
          simp only at hrow hpre
          obtain ⟨hok, hlen1, hrl⟩ := rowF_ok (n := n) (fun s => bh_val R hvs s) ok.ss k hrow
          simp only at hok hlen1 hrl
          have hl1 := hok.l
          have hs4 := R.s2
          have hi1 : i < ss1.length := by omega
          have hgi : ss1[i]? = some set := by rw [hpre i hlt, ← hset, List.getElem?_eq_getElem hlt]
          obtain ⟨hgi1, hgi2⟩ := List.getElem?_eq_some_iff.mp hgi
          by_cases hkl : k < n.signs.toNat
          · have hkI : (k : Int) < n.signs := by omega
            have hx := hb R set k hvs
            have D := fun n' g' => CallD.cd (S := ⟨n', g'⟩) hx (cl_cons (closed_Net n) (cl_cons (Z33 _) (cl_cons (Z32 _) (cl_cons (Z32 _) cl_nil)))) (Z33 _)
            have hvb := bh_val (kd := kd) R hvs (k : Int)
            have hokr : appOk 8 r.length 1 := by unfold appOk; omega
            generalize hto : bhS kd n set k = to at D hvb
            simp only [encNet, encI] at D
            simp [AWb_seq, Z0o, Z0p, Z0l, Z0m, Z0t, Z0n, Z0r, Z0s, Z0q, Z28, Z27, Z2c, Z2d, Z3q, Z3r, Z3n, vIdx, Z5h, Z5g, Z5i, vApp, Z5e, Z4c, Z13, Z12, Z11, Z0z, Z0y, Z10, Z19, Z18, Z17, Z15, Z14, Z16, Z2n, Z2o, Z2l, Z2y, Z3c, Z3b, Z08, Z0a, Z07, Z01, Z03, Z00, Z05, Z06, Z04, Z26, Z25, Z4q, Z4s, Z4r, Z4p, Z1u, Z1v, Z1t, Z40, Z3x, Z3z, Z3y, Z41, Z1s, Z2j, Z3d, Z4f, Z1k, Z1l, Z1m, Z4d, Z4e, Z1i, Z2i, Z1j, Z3v, Z3s, Z3u, Z3t, Z3w, Z4l, Z4k, Z0v, Z0w, Z0x, Z0u, Z1h, Z4w, Z4v, Z4x, Z4u, Z4t, ex, Z4n, Z4m, ev_t, ev_c, Z2h, Z2g, Z4y, Z4z, Z2x, Z2w, Z2q, Z2u, Z2v, Z2r, Z2s, Z2t, putc, exBslice, lfill, exField, exIdxV, exIdxP, exBox, exAlloc, Z3o, Z3p, exStore, exFieldA, Z3h, Z3g, Z3m, Z3l, exPick, exUn, exBeq, exMM, exSeq, seqGo, exExt, binV, intOp, subc, Z5c, Z5b, Z59, Z5a, Z57, Z55, Z56, Z58, Z52, Z53, Z50, Z5d, S0, encI, encB, dmRA, dmA, dmRG, dmG, hkI, ec, hi1, hgi, hgi2]
            refine ⟨_, ⟨_, D _ _⟩, ?_⟩
            simp [AWb_seq, Z0o, Z0p, Z0l, Z0m, Z0t, Z0n, Z0r, Z0s, Z0q, Z28, Z27, Z2c, Z2d, Z3q, Z3r, Z3n, vIdx, Z5h, Z5g, Z5i, vApp, Z5e, Z4c, Z13, Z12, Z11, Z0z, Z0y, Z10, Z19, Z18, Z17, Z15, Z14, Z16, Z2n, Z2o, Z2l, Z2y, Z3c, Z3b, Z08, Z0a, Z07, Z01, Z03, Z00, Z05, Z06, Z04, Z26, Z25, Z4q, Z4s, Z4r, Z4p, Z1u, Z1v, Z1t, Z40, Z3x, Z3z, Z3y, Z41, Z1s, Z2j, Z3d, Z4f, Z1k, Z1l, Z1m, Z4d, Z4e, Z1i, Z2i, Z1j, Z3v, Z3s, Z3u, Z3t, Z3w, Z4l, Z4k, Z0v, Z0w, Z0x, Z0u, Z1h, Z4w, Z4v, Z4x, Z4u, Z4t, ex, Z4n, Z4m, ev_t, ev_c, Z2h, Z2g, Z4y, Z4z, Z2x, Z2w, Z2q, Z2u, Z2v, Z2r, Z2s, Z2t, putc, exBslice, lfill, exField, exIdxV, exIdxP, exBox, exAlloc, Z3o, Z3p, exStore, exFieldA, Z3h, Z3g, Z3m, Z3l, exPick, exUn, exBeq, exMM, exSeq, seqGo, exExt, binV, intOp, subc, Z5c, Z5b, Z59, Z5a, Z57, Z55, Z56, Z58, Z52, Z53, Z50, Z5d, S0, encI, encB, c_md_find]
            refine AWb_for ss1.length (dmFI ss1 to) (dmFA most (kdI kd) i k ((ss1, r), oR, o1) to) 10 (dmFG n nx fin oN oE ((ss1, r), oR, o1)) () (by simp [dmFI]) ?_ ?_
            · refine Abs.of [(0, 0), (1, 1), (2, 2), (3, 3), (4, 4), (5, 5), (6, 6)] [] (by omega) ⟨by simp, by simp⟩ ?_ ?_
              · simp [RenL_snoc, RenL.cl, RenV.cl, Z32, Z2z, Z33, Z34, Z30, Z36, Z35, Z31, Z37, Z38, Z1f, Z1e, Z1d, Z1b, Z1a, Z1c, Z1g, Z5m, Z5f, Z5j, Z4h, Z5l, Z5k, Z4i, Z1w, Z1x, Z24, Z22, Z23, Z21, Z20, Z1z, Z1y, Z4o, Z4n, Z4m, Z4y, Z4z, Z2c, Z2d, Z3q, Z3r, Z2h, Z2g, vV_t, vV_f, vB_t, vB_f, encI, encB, dmFG, dmRG, dmG, zDet, closed_Net]
              · simp [RenL_snoc, RenL.cl, RenV.cl, Z32, Z2z, Z33, Z34, Z30, Z36, Z35, Z31, Z37, Z38, Z1f, Z1e, Z1d, Z1b, Z1a, Z1c, Z1g, Z5m, Z5f, Z5j, Z4h, Z5l, Z5k, Z4i, Z1w, Z1x, Z24, Z22, Z23, Z21, Z20, Z1z, Z1y, Z4o, Z4n, Z4m, Z4y, Z4z, Z2c, Z2d, Z3q, Z3r, Z2h, Z2g, vV_t, vV_f, vB_t, vB_f, encI, encB, dmFA, dmRA, dmA]
            · rintro j _ hj hnot
              have hlt' : to.length ≤ 302 := hvb.2
              have step : ∀ (hjs : j < ss1.length), PureC P fi [encIs ss1[j], encIs to] (encB (ss1[j] == to)) := fun hjs => hi _ _ (by have := (hok.v _ (List.getElem_mem hjs)).2; unfold Len; omega) (by unfold Len; omega)
              by_cases hjl : j < ss1.length
              · have hst := step hjl
                by_cases heq2 : ss1[j] = to
                · have hb1 : (ss1[j] == to) = true := by simp [heq2]
                  rw [hb1] at hst
                  have hidx : (ss1.idxOf to : Int) = j := by rw [idxOf_at hjl heq2 hnot]
                  have hnf : numF most ss1 (bhS kd n set k) = some (ss1, (j : Int)) := by
                    unfold numF
                    rw [hto, if_pos (by rw [← heq2]; exact List.getElem_mem hjl), hidx]
                  have hne : ((j : Int) == (ss1.length : Int)) = false := by simp; omega
                  simp [AWb_seq, Z0o, Z0p, Z0l, Z0m, Z0t, Z0n, Z0r, Z0s, Z0q, Z28, Z27, Z2c, Z2d, Z3q, Z3r, Z3n, vIdx, Z5h, Z5g, Z5i, vApp, Z5e, Z4c, Z13, Z12, Z11, Z0z, Z0y, Z10, Z19, Z18, Z17, Z15, Z14, Z16, Z2n, Z2o, Z2l, Z2y, Z3c, Z3b, Z08, Z0a, Z07, Z01, Z03, Z00, Z05, Z06, Z04, Z26, Z25, Z4q, Z4s, Z4r, Z4p, Z1u, Z1v, Z1t, Z40, Z3x, Z3z, Z3y, Z41, Z1s, Z2j, Z3d, Z4f, Z1k, Z1l, Z1m, Z4d, Z4e, Z1i, Z2i, Z1j, Z3v, Z3s, Z3u, Z3t, Z3w, Z4l, Z4k, Z0v, Z0w, Z0x, Z0u, Z1h, Z4w, Z4v, Z4x, Z4u, Z4t, ex, Z4n, Z4m, ev_t, ev_c, Z2h, Z2g, Z4y, Z4z, Z2x, Z2w, Z2q, Z2u, Z2v, Z2r, Z2s, Z2t, putc, exBslice, lfill, exField, exIdxV, exIdxP, exBox, exAlloc, Z3o, Z3p, exStore, exFieldA, Z3h, Z3g, Z3m, Z3l, exPick, exUn, exBeq, exMM, exSeq, seqGo, exExt, binV, intOp, subc, Z5c, Z5b, Z59, Z5a, Z57, Z55, Z56, Z58, Z52, Z53, Z50, Z5d, S0, encI, encB, dmFA, dmRA, dmA, dmFG, dmRG, dmG, hjl, ec]
                  refine CallR.pure hst (cl_cons (Z33 _) (cl_cons (Z33 _) cl_nil)) (Z2z _) ?_
                  simp [AWb_seq, Z0o, Z0p, Z0l, Z0m, Z0t, Z0n, Z0r, Z0s, Z0q, Z28, Z27, Z2c, Z2d, Z3q, Z3r, Z3n, vIdx, Z5h, Z5g, Z5i, vApp, Z5e, Z4c, Z13, Z12, Z11, Z0z, Z0y, Z10, Z19, Z18, Z17, Z15, Z14, Z16, Z2n, Z2o, Z2l, Z2y, Z3c, Z3b, Z08, Z0a, Z07, Z01, Z03, Z00, Z05, Z06, Z04, Z26, Z25, Z4q, Z4s, Z4r, Z4p, Z1u, Z1v, Z1t, Z40, Z3x, Z3z, Z3y, Z41, Z1s, Z2j, Z3d, Z4f, Z1k, Z1l, Z1m, Z4d, Z4e, Z1i, Z2i, Z1j, Z3v, Z3s, Z3u, Z3t, Z3w, Z4l, Z4k, Z0v, Z0w, Z0x, Z0u, Z1h, Z4w, Z4v, Z4x, Z4u, Z4t, ex, Z4n, Z4m, ev_t, ev_c, Z2h, Z2g, Z4y, Z4z, Z2x, Z2w, Z2q, Z2u, Z2v, Z2r, Z2s, Z2t, putc, exBslice, lfill, exField, exIdxV, exIdxP, exBox, exAlloc, Z3o, Z3p, exStore, exFieldA, Z3h, Z3g, Z3m, Z3l, exPick, exUn, exBeq, exMM, exSeq, seqGo, exExt, binV, intOp, subc, Z5c, Z5b, Z59, Z5a, Z57, Z55, Z56, Z58, Z52, Z53, Z50, Z5d, S0, encI, encB, hne, hokr]
                  rw [wrap_in _ (by omega)]
                  refine ⟨hkl, ((ss1, r ++ [(j : Int)]), true, o1), ⟨by simp only [rowF, hrow, hnf], hpre⟩, Abs.of [(0, 0), (1, 1), (2, 2), (3, 3), (4, 4), (5, 5), (6, 30)] [] (by omega) ⟨by simp, by simp⟩ ?_ ?_⟩
                  · simp [RenL_snoc, RenL.cl, RenV.cl, Z32, Z2z, Z33, Z34, Z30, Z36, Z35, Z31, Z37, Z38, Z1f, Z1e, Z1d, Z1b, Z1a, Z1c, Z1g, Z5m, Z5f, Z5j, Z4h, Z5l, Z5k, Z4i, Z1w, Z1x, Z24, Z22, Z23, Z21, Z20, Z1z, Z1y, Z4o, Z4n, Z4m, Z4y, Z4z, Z2c, Z2d, Z3q, Z3r, Z2h, Z2g, vV_t, vV_f, vB_t, vB_f, encI, encB, dmRG, dmG, zDet, closed_Net]
                  · simp [RenL_snoc, RenL.cl, RenV.cl, Z32, Z2z, Z33, Z34, Z30, Z36, Z35, Z31, Z37, Z38, Z1f, Z1e, Z1d, Z1b, Z1a, Z1c, Z1g, Z5m, Z5f, Z5j, Z4h, Z5l, Z5k, Z4i, Z1w, Z1x, Z24, Z22, Z23, Z21, Z20, Z1z, Z1y, Z4o, Z4n, Z4m, Z4y, Z4z, Z2c, Z2d, Z3q, Z3r, Z2h, Z2g, vV_t, vV_f, vB_t, vB_f, encI, encB, dmRA, dmA]
                · have hb1 : (ss1[j] == to) = false := by simp [heq2]
                  rw [hb1] at hst
                  simp [AWb_seq, Z0o, Z0p, Z0l, Z0m, Z0t, Z0n, Z0r, Z0s, Z0q, Z28, Z27, Z2c, Z2d, Z3q, Z3r, Z3n, vIdx, Z5h, Z5g, Z5i, vApp, Z5e, Z4c, Z13, Z12, Z11, Z0z, Z0y, Z10, Z19, Z18, Z17, Z15, Z14, Z16, Z2n, Z2o, Z2l, Z2y, Z3c, Z3b, Z08, Z0a, Z07, Z01, Z03, Z00, Z05, Z06, Z04, Z26, Z25, Z4q, Z4s, Z4r, Z4p, Z1u, Z1v, Z1t, Z40, Z3x, Z3z, Z3y, Z41, Z1s, Z2j, Z3d, Z4f, Z1k, Z1l, Z1m, Z4d, Z4e, Z1i, Z2i, Z1j, Z3v, Z3s, Z3u, Z3t, Z3w, Z4l, Z4k, Z0v, Z0w, Z0x, Z0u, Z1h, Z4w, Z4v, Z4x, Z4u, Z4t, ex, Z4n, Z4m, ev_t, ev_c, Z2h, Z2g, Z4y, Z4z, Z2x, Z2w, Z2q, Z2u, Z2v, Z2r, Z2s, Z2t, putc, exBslice, lfill, exField, exIdxV, exIdxP, exBox, exAlloc, Z3o, Z3p, exStore, exFieldA, Z3h, Z3g, Z3m, Z3l, exPick, exUn, exBeq, exMM, exSeq, seqGo, exExt, binV, intOp, subc, Z5c, Z5b, Z59, Z5a, Z57, Z55, Z56, Z58, Z52, Z53, Z50, Z5d, S0, encI, encB, dmFA, dmRA, dmA, dmFG, dmRG, dmG, hjl, ec]
                  refine CallR.pure hst (cl_cons (Z33 _) (cl_cons (Z33 _) cl_nil)) (Z2z _) ?_
                  simp [AWb_seq, Z0o, Z0p, Z0l, Z0m, Z0t, Z0n, Z0r, Z0s, Z0q, Z28, Z27, Z2c, Z2d, Z3q, Z3r, Z3n, vIdx, Z5h, Z5g, Z5i, vApp, Z5e, Z4c, Z13, Z12, Z11, Z0z, Z0y, Z10, Z19, Z18, Z17, Z15, Z14, Z16, Z2n, Z2o, Z2l, Z2y, Z3c, Z3b, Z08, Z0a, Z07, Z01, Z03, Z00, Z05, Z06, Z04, Z26, Z25, Z4q, Z4s, Z4r, Z4p, Z1u, Z1v, Z1t, Z40, Z3x, Z3z, Z3y, Z41, Z1s, Z2j, Z3d, Z4f, Z1k, Z1l, Z1m, Z4d, Z4e, Z1i, Z2i, Z1j, Z3v, Z3s, Z3u, Z3t, Z3w, Z4l, Z4k, Z0v, Z0w, Z0x, Z0u, Z1h, Z4w, Z4v, Z4x, Z4u, Z4t, ex, Z4n, Z4m, ev_t, ev_c, Z2h, Z2g, Z4y, Z4z, Z2x, Z2w, Z2q, Z2u, Z2v, Z2r, Z2s, Z2t, putc, exBslice, lfill, exField, exIdxV, exIdxP, exBox, exAlloc, Z3o, Z3p, exStore, exFieldA, Z3h, Z3g, Z3m, Z3l, exPick, exUn, exBeq, exMM, exSeq, seqGo, exExt, binV, intOp, subc, Z5c, Z5b, Z59, Z5a, Z57, Z55, Z56, Z58, Z52, Z53, Z50, Z5d, S0, encI, encB]
                  rw [wrap_in _ (by omega)]
                  refine ⟨hjl, (), ?_, Abs.of [(0, 0), (1, 1), (2, 2), (3, 3), (4, 4), (5, 5), (6, 6)] [] (by omega) ⟨by simp, by simp⟩ ?_ ?_⟩
                  · unfold dmFI at hnot ⊢
                    rw [List.take_add_one, List.getElem?_eq_getElem hjl]
                    simp only [Option.toList_some, List.mem_append, List.mem_singleton, not_or]
                    exact ⟨hnot, fun e => heq2 e.symm⟩
                  · simp [RenL_snoc, RenL.cl, RenV.cl, Z32, Z2z, Z33, Z34, Z30, Z36, Z35, Z31, Z37, Z38, Z1f, Z1e, Z1d, Z1b, Z1a, Z1c, Z1g, Z5m, Z5f, Z5j, Z4h, Z5l, Z5k, Z4i, Z1w, Z1x, Z24, Z22, Z23, Z21, Z20, Z1z, Z1y, Z4o, Z4n, Z4m, Z4y, Z4z, Z2c, Z2d, Z3q, Z3r, Z2h, Z2g, vV_t, vV_f, vB_t, vB_f, encI, encB, dmFG, dmRG, dmG, zDet, closed_Net]
                  · simp [RenL_snoc, RenL.cl, RenV.cl, Z32, Z2z, Z33, Z34, Z30, Z36, Z35, Z31, Z37, Z38, Z1f, Z1e, Z1d, Z1b, Z1a, Z1c, Z1g, Z5m, Z5f, Z5j, Z4h, Z5l, Z5k, Z4i, Z1w, Z1x, Z24, Z22, Z23, Z21, Z20, Z1z, Z1y, Z4o, Z4n, Z4m, Z4y, Z4z, Z2c, Z2d, Z3q, Z3r, Z2h, Z2g, vV_t, vV_f, vB_t, vB_f, encI, encB, dmFA, dmRA, dmA]
              · have hje : j = ss1.length := by omega
                subst hje
                have hnot' : to ∉ ss1 := by unfold dmFI at hnot; rwa [List.take_length] at hnot
                by_cases hfull : (ss1.length : Int) = most
                · have hnf : numF most ss1 (bhS kd n set k) = none := by unfold numF; rw [hto, if_neg hnot', if_pos hfull]
                  have hrn : rowF most (bhS kd n set) n.signs.toNat ss = none := rowF_none (k := k + 1) (by simp only [rowF, hrow, hnf]) _ (by omega)
                  have hnone : dmakeF kd n most = none := by
                    refine goF_none R (most.toNat + 1) 0 rfl i (Nat.zero_le _) (by rw [hnxt]; simp only [nxF, hset, hrn]) (fun m _ h2 stm hstm => ?_)
                    by_cases hmi : m = i
                    · subst hmi
                      rw [heq] at hstm
                      cases hstm
                      simp only; omega
                    · exact hmin m (by omega) stm hstm
                  rw [hnone] at hres
                  simp only at hres
                  have hfe : ((ss1.length : Int) == most) = true := by simp [hfull]
                  rw [hres]
                  simp [AWb_seq, Z0o, Z0p, Z0l, Z0m, Z0t, Z0n, Z0r, Z0s, Z0q, Z28, Z27, Z2c, Z2d, Z3q, Z3r, Z3n, vIdx, Z5h, Z5g, Z5i, vApp, Z5e, Z4c, Z13, Z12, Z11, Z0z, Z0y, Z10, Z19, Z18, Z17, Z15, Z14, Z16, Z2n, Z2o, Z2l, Z2y, Z3c, Z3b, Z08, Z0a, Z07, Z01, Z03, Z00, Z05, Z06, Z04, Z26, Z25, Z4q, Z4s, Z4r, Z4p, Z1u, Z1v, Z1t, Z40, Z3x, Z3z, Z3y, Z41, Z1s, Z2j, Z3d, Z4f, Z1k, Z1l, Z1m, Z4d, Z4e, Z1i, Z2i, Z1j, Z3v, Z3s, Z3u, Z3t, Z3w, Z4l, Z4k, Z0v, Z0w, Z0x, Z0u, Z1h, Z4w, Z4v, Z4x, Z4u, Z4t, ex, Z4n, Z4m, ev_t, ev_c, Z2h, Z2g, Z4y, Z4z, Z2x, Z2w, Z2q, Z2u, Z2v, Z2r, Z2s, Z2t, putc, exBslice, lfill, exField, exIdxV, exIdxP, exBox, exAlloc, Z3o, Z3p, exStore, exFieldA, Z3h, Z3g, Z3m, Z3l, exPick, exUn, exBeq, exMM, exSeq, seqGo, exExt, binV, intOp, subc, Z5c, Z5b, Z59, Z5a, Z57, Z55, Z56, Z58, Z52, Z53, Z50, Z5d, S0, encI, encB, dmFA, dmRA, dmA, dmFG, dmRG, dmG, hfe, ec, RetC, evC, RV.ev, ldC, packC, exBuild, afill, zDet]
                  exact fz_zDet _ 13
                · have hnf : numF most ss1 (bhS kd n set k) = some (ss1 ++ [to], (ss1.length : Int)) := by unfold numF; rw [hto, if_neg hnot', if_neg hfull]
                  have hfe : ((ss1.length : Int) == most) = false := by simp [hfull]
                  have hoks : appOk 24 ss1.length 1 := by unfold appOk; omega
                  simp [AWb_seq, Z0o, Z0p, Z0l, Z0m, Z0t, Z0n, Z0r, Z0s, Z0q, Z28, Z27, Z2c, Z2d, Z3q, Z3r, Z3n, vIdx, Z5h, Z5g, Z5i, vApp, Z5e, Z4c, Z13, Z12, Z11, Z0z, Z0y, Z10, Z19, Z18, Z17, Z15, Z14, Z16, Z2n, Z2o, Z2l, Z2y, Z3c, Z3b, Z08, Z0a, Z07, Z01, Z03, Z00, Z05, Z06, Z04, Z26, Z25, Z4q, Z4s, Z4r, Z4p, Z1u, Z1v, Z1t, Z40, Z3x, Z3z, Z3y, Z41, Z1s, Z2j, Z3d, Z4f, Z1k, Z1l, Z1m, Z4d, Z4e, Z1i, Z2i, Z1j, Z3v, Z3s, Z3u, Z3t, Z3w, Z4l, Z4k, Z0v, Z0w, Z0x, Z0u, Z1h, Z4w, Z4v, Z4x, Z4u, Z4t, ex, Z4n, Z4m, ev_t, ev_c, Z2h, Z2g, Z4y, Z4z, Z2x, Z2w, Z2q, Z2u, Z2v, Z2r, Z2s, Z2t, putc, exBslice, lfill, exField, exIdxV, exIdxP, exBox, exAlloc, Z3o, Z3p, exStore, exFieldA, Z3h, Z3g, Z3m, Z3l, exPick, exUn, exBeq, exMM, exSeq, seqGo, exExt, binV, intOp, subc, Z5c, Z5b, Z59, Z5a, Z57, Z55, Z56, Z58, Z52, Z53, Z50, Z5d, S0, encI, encB, dmFA, dmRA, dmA, dmFG, dmRG, dmG, hfe, ec, hokr, hoks]
                  rw [wrap_in _ (by omega)]
                  refine ⟨hkl, ((ss1 ++ [to], r ++ [(ss1.length : Int)]), true, true), ⟨by simp only [rowF, hrow, hnf], fun a ha => ?_⟩, Abs.of [(0, 0), (1, 1), (2, 2), (3, 33), (4, 4), (5, 5), (6, 38)] [] (by omega) ⟨by simp, by simp⟩ ?_ ?_⟩
                  · have := hpre a ha
                    have hal := (List.getElem?_eq_some_iff.mp this).1
                    simp only
                    rw [List.getElem?_append_left hal]; exact this
                  · simp [RenL_snoc, RenL.cl, RenV.cl, Z32, Z2z, Z33, Z34, Z30, Z36, Z35, Z31, Z37, Z38, Z1f, Z1e, Z1d, Z1b, Z1a, Z1c, Z1g, Z5m, Z5f, Z5j, Z4h, Z5l, Z5k, Z4i, Z1w, Z1x, Z24, Z22, Z23, Z21, Z20, Z1z, Z1y, Z4o, Z4n, Z4m, Z4y, Z4z, Z2c, Z2d, Z3q, Z3r, Z2h, Z2g, vV_t, vV_f, vB_t, vB_f, encI, encB, dmRG, dmG, zDet, closed_Net]
                  · simp [RenL_snoc, RenL.cl, RenV.cl, Z32, Z2z, Z33, Z34, Z30, Z36, Z35, Z31, Z37, Z38, Z1f, Z1e, Z1d, Z1b, Z1a, Z1c, Z1g, Z5m, Z5f, Z5j, Z4h, Z5l, Z5k, Z4i, Z1w, Z1x, Z24, Z22, Z23, Z21, Z20, Z1z, Z1y, Z4o, Z4n, Z4m, Z4y, Z4z, Z2c, Z2d, Z3q, Z3r, Z2h, Z2g, vV_t, vV_f, vB_t, vB_f, encI, encB, dmRA, dmA]
          · have hkL : k = n.signs.toNat := by omega
            have hkI : ¬ ((k : Int) < n.signs) := by omega
            rw [hkL] at hrow
            have hx := he R set hvs
            have hnx := ok.nx
            have hfn := ok.en
            simp only at hnx hfn
            have hokx : appOk 24 nx.length 1 := by unfold appOk; omega
            have hoke : appOk 1 fin.length 1 := by unfold appOk; omega
            have D := fun n' g' => CallD.cd (S := ⟨n', g'⟩) hx (cl_cons (closed_Net n) (cl_cons (Z33 _) cl_nil)) (Z2z _)
            simp only [encNet, encI, encB] at D
            have hsr : nxF kd n most i (ss, nx, fin) = some (ss1, nx ++ [r], fin ++ [endsB n set]) := by simp only [nxF, hset, hrow]
            simp [AWb_seq, Z0o, Z0p, Z0l, Z0m, Z0t, Z0n, Z0r, Z0s, Z0q, Z28, Z27, Z2c, Z2d, Z3q, Z3r, Z3n, vIdx, Z5h, Z5g, Z5i, vApp, Z5e, Z4c, Z13, Z12, Z11, Z0z, Z0y, Z10, Z19, Z18, Z17, Z15, Z14, Z16, Z2n, Z2o, Z2l, Z2y, Z3c, Z3b, Z08, Z0a, Z07, Z01, Z03, Z00, Z05, Z06, Z04, Z26, Z25, Z4q, Z4s, Z4r, Z4p, Z1u, Z1v, Z1t, Z40, Z3x, Z3z, Z3y, Z41, Z1s, Z2j, Z3d, Z4f, Z1k, Z1l, Z1m, Z4d, Z4e, Z1i, Z2i, Z1j, Z3v, Z3s, Z3u, Z3t, Z3w, Z4l, Z4k, Z0v, Z0w, Z0x, Z0u, Z1h, Z4w, Z4v, Z4x, Z4u, Z4t, ex, Z4n, Z4m, ev_t, ev_c, Z2h, Z2g, Z4y, Z4z, Z2x, Z2w, Z2q, Z2u, Z2v, Z2r, Z2s, Z2t, putc, exBslice, lfill, exField, exIdxV, exIdxP, exBox, exAlloc, Z3o, Z3p, exStore, exFieldA, Z3h, Z3g, Z3m, Z3l, exPick, exUn, exBeq, exMM, exSeq, seqGo, exExt, binV, intOp, subc, Z5c, Z5b, Z59, Z5a, Z57, Z55, Z56, Z58, Z52, Z53, Z50, Z5d, S0, encI, encB, dmRA, dmA, dmRG, dmG, hkI, ec, hi1, hgi, hgi2, c_md_last, hokx, hoke]
            refine ⟨by rintro j (⟨_, rfl⟩ | rfl) <;> simp, by rintro j (⟨_, rfl⟩ | rfl) <;> simp, by rintro j (⟨_, rfl⟩ | rfl) <;> simp, _, _, D _ _, ?_⟩
            simp [AWb_seq, Z0o, Z0p, Z0l, Z0m, Z0t, Z0n, Z0r, Z0s, Z0q, Z28, Z27, Z2c, Z2d, Z3q, Z3r, Z3n, vIdx, Z5h, Z5g, Z5i, vApp, Z5e, Z4c, Z13, Z12, Z11, Z0z, Z0y, Z10, Z19, Z18, Z17, Z15, Z14, Z16, Z2n, Z2o, Z2l, Z2y, Z3c, Z3b, Z08, Z0a, Z07, Z01, Z03, Z00, Z05, Z06, Z04, Z26, Z25, Z4q, Z4s, Z4r, Z4p, Z1u, Z1v, Z1t, Z40, Z3x, Z3z, Z3y, Z41, Z1s, Z2j, Z3d, Z4f, Z1k, Z1l, Z1m, Z4d, Z4e, Z1i, Z2i, Z1j, Z3v, Z3s, Z3u, Z3t, Z3w, Z4l, Z4k, Z0v, Z0w, Z0x, Z0u, Z1h, Z4w, Z4v, Z4x, Z4u, Z4t, ex, Z4n, Z4m, ev_t, ev_c, Z2h, Z2g, Z4y, Z4z, Z2x, Z2w, Z2q, Z2u, Z2v, Z2r, Z2s, Z2t, putc, exBslice, lfill, exField, exIdxV, exIdxP, exBox, exAlloc, Z3o, Z3p, exStore, exFieldA, Z3h, Z3g, Z3m, Z3l, exPick, exUn, exBeq, exMM, exSeq, seqGo, exExt, binV, intOp, subc, Z5c, Z5b, Z59, Z5a, Z57, Z55, Z56, Z58, Z52, Z53, Z50, Z5d, S0, encI, encB, ec, hokx, hoke]
            rw [wrap_in _ (by omega)]
            refine ⟨by omega, ((ss1, nx ++ [r], fin ++ [endsB n set]), o1, true, true), ⟨by rw [hnxt, hsr], fun m hm stm hstm => ?_⟩, Abs.of [(0, 0), (1, 1), (2, 2), (3, 3), (4, 18), (5, 28)] [6] (by omega) ⟨by simp, by simp⟩ ?_ ?_⟩
            · by_cases hmi : m = i
              · subst hmi
                rw [heq] at hstm
                cases hstm
                simp only; omega
              · exact hmin m (by omega) stm hstm
            · simp [RenL_snoc, RenL.cl, RenV.cl, Z32, Z2z, Z33, Z34, Z30, Z36, Z35, Z31, Z37, Z38, Z1f, Z1e, Z1d, Z1b, Z1a, Z1c, Z1g, Z5m, Z5f, Z5j, Z4h, Z5l, Z5k, Z4i, Z1w, Z1x, Z24, Z22, Z23, Z21, Z20, Z1z, Z1y, Z4o, Z4n, Z4m, Z4y, Z4z, Z2c, Z2d, Z3q, Z3r, Z2h, Z2g, vV_t, vV_f, vB_t, vB_f, encI, encB, dmOG, dmG, zDet, closed_Net]
            · simp [RenL_snoc, RenL.cl, RenV.cl, Z32, Z2z, Z33, Z34, Z30, Z36, Z35, Z31, Z37, Z38, Z1f, Z1e, Z1d, Z1b, Z1a, Z1c, Z1g, Z5m, Z5f, Z5j, Z4h, Z5l, Z5k, Z4i, Z1w, Z1x, Z24, Z22, Z23, Z21, Z20, Z1z, Z1y, Z4o, Z4n, Z4m, Z4y, Z4z, Z2c, Z2d, Z3q, Z3r, Z2h, Z2g, vV_t, vV_f, vB_t, vB_f, encI, encB, dmOA, dmA]
      · have hie : i = ss.length := by omega
        subst hie
        have hmade : dmakeF kd n most = some (ss, nx, fin) := goF_end R (by omega) (most.toNat + 1) 0 rfl (by omega) ss.length (ss, nx, fin) (Nat.zero_le _) heq rfl (fun m _ h2 => hmin m h2)
        rw [hmade] at hres
        simp only at hres
        rw [hres]
        simp [AWb_seq, Z0o, Z0p, Z0l, Z0m, Z0t, Z0n, Z0r, Z0s, Z0q, Z28, Z27, Z2c, Z2d, Z3q, Z3r, Z3n, vIdx, Z5h, Z5g, Z5i, vApp, Z5e, Z4c, Z13, Z12, Z11, Z0z, Z0y, Z10, Z19, Z18, Z17, Z15, Z14, Z16, Z2n, Z2o, Z2l, Z2y, Z3c, Z3b, Z08, Z0a, Z07, Z01, Z03, Z00, Z05, Z06, Z04, Z26, Z25, Z4q, Z4s, Z4r, Z4p, Z1u, Z1v, Z1t, Z40, Z3x, Z3z, Z3y, Z41, Z1s, Z2j, Z3d, Z4f, Z1k, Z1l, Z1m, Z4d, Z4e, Z1i, Z2i, Z1j, Z3v, Z3s, Z3u, Z3t, Z3w, Z4l, Z4k, Z0v, Z0w, Z0x, Z0u, Z1h, Z4w, Z4v, Z4x, Z4u, Z4t, ex, Z4n, Z4m, ev_t, ev_c, Z2h, Z2g, Z4y, Z4z, Z2x, Z2w, Z2q, Z2u, Z2v, Z2r, Z2s, Z2t, putc, exBslice, lfill, exField, exIdxV, exIdxP, exBox, exAlloc, Z3o, Z3p, exStore, exFieldA, Z3h, Z3g, Z3m, Z3l, exPick, exUn, exBeq, exMM, exSeq, seqGo, exExt, binV, intOp, subc, Z5c, Z5b, Z59, Z5a, Z57, Z55, Z56, Z58, Z52, Z53, Z50, Z5d, S0, encI, encB, dmOA, dmA, dmOG, dmG, c_md_fin, RetC, evC, RV.ev, ldC, packC, zDet]
        refine .tupL (.cons (.aggL (.cons (.closed _ (.v _)) (.cons (vV_fz ?_ (Z1c _)) (.cons (vV_fz ?_ (Z1a _)) .nil)))) (.cons (.closed _ (.v _)) .nil))
        · simp [RenL_snoc, RenL.cl, RenV.cl, Z32, Z2z, Z33, Z34, Z30, Z36, Z35, Z31, Z37, Z38, Z1f, Z1e, Z1d, Z1b, Z1a, Z1c, Z1g, Z5m, Z5f, Z5j, Z4h, Z5l, Z5k, Z4i, Z1w, Z1x, Z24, Z22, Z23, Z21, Z20, Z1z, Z1y, Z4o, Z4n, Z4m, Z4y, Z4z, Z2c, Z2d, Z3q, Z3r, Z2h, Z2g, vV_t, vV_f, vB_t, vB_f, encI, encB]
        · simp [RenL_snoc, RenL.cl, RenV.cl, Z32, Z2z, Z33, Z34, Z30, Z36, Z35, Z31, Z37, Z38, Z1f, Z1e, Z1d, Z1b, Z1a, Z1c, Z1g, Z5m, Z5f, Z5j, Z4h, Z5l, Z5k, Z4i, Z1w, Z1x, Z24, Z22, Z23, Z21, Z20, Z1z, Z1y, Z4o, Z4n, Z4m, Z4y, Z4z, Z2c, Z2d, Z3q, Z3r, Z2h, Z2g, vV_t, vV_f, vB_t, vB_f, encI, encB]
end Go.Rf


/- Own work: DetMakes. -/
set_option linter.unusedVariables false
set_option linter.unusedSimpArgs false
namespace Go.Rf
open Go.RowKit
def c_caesuraref15_Whole (f_caesuraref15_made : FuncId) : AC :=
  (.seq (.reg none [
   ⟨(some 2), .box 4 (.t 0), none, none⟩,
   ⟨(some 4), .alloc (.agg [(.v (.int .i64 0)), (.sl true []), (.sl true [])]) 3, none, none⟩,
   ⟨(some 5), .mv (.c (.v (.int .i64 0))), none, none⟩])
  (.seq (.reg none [
   ⟨(some 6), .load (some 4) (.t 2), none, none⟩,
   ⟨(some 7), .mv (.t 1), none, none⟩,
   ⟨(some 8), .mv (.c .junk), none, (some ((.c (.clo f_caesuraref15_made [] [])), [(.t 6), (.t 7), (.c (.v (.int .i64 0)))]))⟩,
   ⟨(some 9), .ext 0 (.t 8), none, none⟩,
   ⟨(some 10), .ext 1 (.t 8), none, none⟩,
   ⟨none, .store 3 (.t 4) (.t 9), none, none⟩,
   ⟨(some 5), .mv (.t 10), none, none⟩])
  .ret))
def c_caesuraref15_Tails (f_caesuraref15_made : FuncId) : AC :=
  (.seq (.reg none [
   ⟨(some 2), .box 4 (.t 0), none, none⟩,
   ⟨(some 4), .alloc (.agg [(.v (.int .i64 0)), (.sl true []), (.sl true [])]) 3, none, none⟩,
   ⟨(some 5), .mv (.c (.v (.int .i64 0))), none, none⟩])
  (.seq (.reg none [
   ⟨(some 6), .load (some 4) (.t 2), none, none⟩,
   ⟨(some 7), .mv (.t 1), none, none⟩,
   ⟨(some 8), .mv (.c .junk), none, (some ((.c (.clo f_caesuraref15_made [] [])), [(.t 6), (.t 7), (.c (.v (.int .i64 1)))]))⟩,
   ⟨(some 9), .ext 0 (.t 8), none, none⟩,
   ⟨(some 10), .ext 1 (.t 8), none, none⟩,
   ⟨none, .store 3 (.t 4) (.t 9), none, none⟩,
   ⟨(some 5), .mv (.t 10), none, none⟩])
  .ret))
def c_caesuraref15_Heads (f_caesuraref15_made : FuncId) : AC :=
  (.seq (.reg none [
   ⟨(some 2), .box 4 (.t 0), none, none⟩,
   ⟨(some 4), .alloc (.agg [(.v (.int .i64 0)), (.sl true []), (.sl true [])]) 3, none, none⟩,
   ⟨(some 5), .mv (.c (.v (.int .i64 0))), none, none⟩])
  (.seq (.reg none [
   ⟨(some 6), .load (some 4) (.t 2), none, none⟩,
   ⟨(some 7), .mv (.t 1), none, none⟩,
   ⟨(some 8), .mv (.c .junk), none, (some ((.c (.clo f_caesuraref15_made [] [])), [(.t 6), (.t 7), (.c (.v (.int .i64 2)))]))⟩,
   ⟨(some 9), .ext 0 (.t 8), none, none⟩,
   ⟨(some 10), .ext 1 (.t 8), none, none⟩,
   ⟨none, .store 3 (.t 4) (.t 9), none, none⟩,
   ⟨(some 5), .mv (.t 10), none, none⟩])
  .ret))
theorem ref15_Whole_body {P : Program} {f1 : FuncId} {n : Net} {most : Int} {p : Det × Int} (h : PureC P f1 [encNet n, encI most, encI 0] (encDE p)) : AWb P 0 (c_caesuraref15_Whole f1) (RetC [.c 4 (some 3), .t 5] (FzK (encDE p))) (argF [encNet n, encI most]) S0 := by
  have ec : (encNet n).cells = [encI n.signs, encIss n.by_, encIss n.follow, encIs n.last] := rfl
  have en : AV.agg [.v (.int .i64 n.signs), encIss n.by_, encIss n.follow, encIs n.last] = encNet n := rfl
  have es : (encNet n).solid = true := rfl
  simp [AWb_seq, Z0o, Z0p, Z0l, Z0m, Z0t, Z0n, Z0r, Z0s, Z0q, Z28, Z27, Z2c, Z2d, Z3q, Z3r, Z3n, vIdx, Z5h, Z5g, Z5i, vApp, Z5e, Z4c, Z13, Z12, Z11, Z0z, Z0y, Z10, Z19, Z18, Z17, Z15, Z14, Z16, Z2n, Z2o, Z2l, Z2y, Z3c, Z3b, Z08, Z0a, Z07, Z01, Z03, Z00, Z05, Z06, Z04, Z26, Z25, Z4q, Z4s, Z4r, Z4p, Z1u, Z1v, Z1t, Z40, Z3x, Z3z, Z3y, Z41, Z1s, Z2j, Z3d, Z4f, Z1k, Z1l, Z1m, Z4d, Z4e, Z1i, Z2i, Z1j, Z3v, Z3s, Z3u, Z3t, Z3w, Z4l, Z4k, Z0v, Z0w, Z0x, Z0u, Z1h, Z4w, Z4v, Z4x, Z4u, Z4t, ex, Z4n, Z4m, ev_t, ev_c, Z2h, Z2g, Z4y, Z4z, Z2x, Z2w, Z2q, Z2u, Z2v, Z2r, Z2s, Z2t, putc, exBslice, lfill, exField, exIdxV, exIdxP, exBox, exAlloc, Z3o, Z3p, exStore, exFieldA, Z3h, Z3g, Z3m, Z3l, exPick, exUn, exBeq, exMM, exSeq, seqGo, exExt, binV, intOp, subc, Z5c, Z5b, Z59, Z5a, Z57, Z55, Z56, Z58, Z52, Z53, Z50, Z5d, S0, encI, encB, c_caesuraref15_Whole, es, ec, en]
  refine CallR.pure h (cl_cons (closed_Net n) (cl_cons (Z32 _) (cl_cons (Z32 _) cl_nil))) (closed_DE p) ?_
  simp [AWb_seq, Z0o, Z0p, Z0l, Z0m, Z0t, Z0n, Z0r, Z0s, Z0q, Z28, Z27, Z2c, Z2d, Z3q, Z3r, Z3n, vIdx, Z5h, Z5g, Z5i, vApp, Z5e, Z4c, Z13, Z12, Z11, Z0z, Z0y, Z10, Z19, Z18, Z17, Z15, Z14, Z16, Z2n, Z2o, Z2l, Z2y, Z3c, Z3b, Z08, Z0a, Z07, Z01, Z03, Z00, Z05, Z06, Z04, Z26, Z25, Z4q, Z4s, Z4r, Z4p, Z1u, Z1v, Z1t, Z40, Z3x, Z3z, Z3y, Z41, Z1s, Z2j, Z3d, Z4f, Z1k, Z1l, Z1m, Z4d, Z4e, Z1i, Z2i, Z1j, Z3v, Z3s, Z3u, Z3t, Z3w, Z4l, Z4k, Z0v, Z0w, Z0x, Z0u, Z1h, Z4w, Z4v, Z4x, Z4u, Z4t, ex, Z4n, Z4m, ev_t, ev_c, Z2h, Z2g, Z4y, Z4z, Z2x, Z2w, Z2q, Z2u, Z2v, Z2r, Z2s, Z2t, putc, exBslice, lfill, exField, exIdxV, exIdxP, exBox, exAlloc, Z3o, Z3p, exStore, exFieldA, Z3h, Z3g, Z3m, Z3l, exPick, exUn, exBeq, exMM, exSeq, seqGo, exExt, binV, intOp, subc, Z5c, Z5b, Z59, Z5a, Z57, Z55, Z56, Z58, Z52, Z53, Z50, Z5d, S0, encI, encB, encDE, encDet, RetC, evC, RV.ev, ldC, packC]
  exact .closed _ (closed_DE p)
theorem ref15_Tails_body {P : Program} {f1 : FuncId} {n : Net} {most : Int} {p : Det × Int} (h : PureC P f1 [encNet n, encI most, encI 1] (encDE p)) : AWb P 0 (c_caesuraref15_Tails f1) (RetC [.c 4 (some 3), .t 5] (FzK (encDE p))) (argF [encNet n, encI most]) S0 := by
  have ec : (encNet n).cells = [encI n.signs, encIss n.by_, encIss n.follow, encIs n.last] := rfl
  have en : AV.agg [.v (.int .i64 n.signs), encIss n.by_, encIss n.follow, encIs n.last] = encNet n := rfl
  have es : (encNet n).solid = true := rfl
  simp [AWb_seq, Z0o, Z0p, Z0l, Z0m, Z0t, Z0n, Z0r, Z0s, Z0q, Z28, Z27, Z2c, Z2d, Z3q, Z3r, Z3n, vIdx, Z5h, Z5g, Z5i, vApp, Z5e, Z4c, Z13, Z12, Z11, Z0z, Z0y, Z10, Z19, Z18, Z17, Z15, Z14, Z16, Z2n, Z2o, Z2l, Z2y, Z3c, Z3b, Z08, Z0a, Z07, Z01, Z03, Z00, Z05, Z06, Z04, Z26, Z25, Z4q, Z4s, Z4r, Z4p, Z1u, Z1v, Z1t, Z40, Z3x, Z3z, Z3y, Z41, Z1s, Z2j, Z3d, Z4f, Z1k, Z1l, Z1m, Z4d, Z4e, Z1i, Z2i, Z1j, Z3v, Z3s, Z3u, Z3t, Z3w, Z4l, Z4k, Z0v, Z0w, Z0x, Z0u, Z1h, Z4w, Z4v, Z4x, Z4u, Z4t, ex, Z4n, Z4m, ev_t, ev_c, Z2h, Z2g, Z4y, Z4z, Z2x, Z2w, Z2q, Z2u, Z2v, Z2r, Z2s, Z2t, putc, exBslice, lfill, exField, exIdxV, exIdxP, exBox, exAlloc, Z3o, Z3p, exStore, exFieldA, Z3h, Z3g, Z3m, Z3l, exPick, exUn, exBeq, exMM, exSeq, seqGo, exExt, binV, intOp, subc, Z5c, Z5b, Z59, Z5a, Z57, Z55, Z56, Z58, Z52, Z53, Z50, Z5d, S0, encI, encB, c_caesuraref15_Tails, es, ec, en]
  refine CallR.pure h (cl_cons (closed_Net n) (cl_cons (Z32 _) (cl_cons (Z32 _) cl_nil))) (closed_DE p) ?_
  simp [AWb_seq, Z0o, Z0p, Z0l, Z0m, Z0t, Z0n, Z0r, Z0s, Z0q, Z28, Z27, Z2c, Z2d, Z3q, Z3r, Z3n, vIdx, Z5h, Z5g, Z5i, vApp, Z5e, Z4c, Z13, Z12, Z11, Z0z, Z0y, Z10, Z19, Z18, Z17, Z15, Z14, Z16, Z2n, Z2o, Z2l, Z2y, Z3c, Z3b, Z08, Z0a, Z07, Z01, Z03, Z00, Z05, Z06, Z04, Z26, Z25, Z4q, Z4s, Z4r, Z4p, Z1u, Z1v, Z1t, Z40, Z3x, Z3z, Z3y, Z41, Z1s, Z2j, Z3d, Z4f, Z1k, Z1l, Z1m, Z4d, Z4e, Z1i, Z2i, Z1j, Z3v, Z3s, Z3u, Z3t, Z3w, Z4l, Z4k, Z0v, Z0w, Z0x, Z0u, Z1h, Z4w, Z4v, Z4x, Z4u, Z4t, ex, Z4n, Z4m, ev_t, ev_c, Z2h, Z2g, Z4y, Z4z, Z2x, Z2w, Z2q, Z2u, Z2v, Z2r, Z2s, Z2t, putc, exBslice, lfill, exField, exIdxV, exIdxP, exBox, exAlloc, Z3o, Z3p, exStore, exFieldA, Z3h, Z3g, Z3m, Z3l, exPick, exUn, exBeq, exMM, exSeq, seqGo, exExt, binV, intOp, subc, Z5c, Z5b, Z59, Z5a, Z57, Z55, Z56, Z58, Z52, Z53, Z50, Z5d, S0, encI, encB, encDE, encDet, RetC, evC, RV.ev, ldC, packC]
  exact .closed _ (closed_DE p)
theorem ref15_Heads_body {P : Program} {f1 : FuncId} {n : Net} {most : Int} {p : Det × Int} (h : PureC P f1 [encNet n, encI most, encI 2] (encDE p)) : AWb P 0 (c_caesuraref15_Heads f1) (RetC [.c 4 (some 3), .t 5] (FzK (encDE p))) (argF [encNet n, encI most]) S0 := by
  have ec : (encNet n).cells = [encI n.signs, encIss n.by_, encIss n.follow, encIs n.last] := rfl
  have en : AV.agg [.v (.int .i64 n.signs), encIss n.by_, encIss n.follow, encIs n.last] = encNet n := rfl
  have es : (encNet n).solid = true := rfl
  simp [AWb_seq, Z0o, Z0p, Z0l, Z0m, Z0t, Z0n, Z0r, Z0s, Z0q, Z28, Z27, Z2c, Z2d, Z3q, Z3r, Z3n, vIdx, Z5h, Z5g, Z5i, vApp, Z5e, Z4c, Z13, Z12, Z11, Z0z, Z0y, Z10, Z19, Z18, Z17, Z15, Z14, Z16, Z2n, Z2o, Z2l, Z2y, Z3c, Z3b, Z08, Z0a, Z07, Z01, Z03, Z00, Z05, Z06, Z04, Z26, Z25, Z4q, Z4s, Z4r, Z4p, Z1u, Z1v, Z1t, Z40, Z3x, Z3z, Z3y, Z41, Z1s, Z2j, Z3d, Z4f, Z1k, Z1l, Z1m, Z4d, Z4e, Z1i, Z2i, Z1j, Z3v, Z3s, Z3u, Z3t, Z3w, Z4l, Z4k, Z0v, Z0w, Z0x, Z0u, Z1h, Z4w, Z4v, Z4x, Z4u, Z4t, ex, Z4n, Z4m, ev_t, ev_c, Z2h, Z2g, Z4y, Z4z, Z2x, Z2w, Z2q, Z2u, Z2v, Z2r, Z2s, Z2t, putc, exBslice, lfill, exField, exIdxV, exIdxP, exBox, exAlloc, Z3o, Z3p, exStore, exFieldA, Z3h, Z3g, Z3m, Z3l, exPick, exUn, exBeq, exMM, exSeq, seqGo, exExt, binV, intOp, subc, Z5c, Z5b, Z59, Z5a, Z57, Z55, Z56, Z58, Z52, Z53, Z50, Z5d, S0, encI, encB, c_caesuraref15_Heads, es, ec, en]
  refine CallR.pure h (cl_cons (closed_Net n) (cl_cons (Z32 _) (cl_cons (Z32 _) cl_nil))) (closed_DE p) ?_
  simp [AWb_seq, Z0o, Z0p, Z0l, Z0m, Z0t, Z0n, Z0r, Z0s, Z0q, Z28, Z27, Z2c, Z2d, Z3q, Z3r, Z3n, vIdx, Z5h, Z5g, Z5i, vApp, Z5e, Z4c, Z13, Z12, Z11, Z0z, Z0y, Z10, Z19, Z18, Z17, Z15, Z14, Z16, Z2n, Z2o, Z2l, Z2y, Z3c, Z3b, Z08, Z0a, Z07, Z01, Z03, Z00, Z05, Z06, Z04, Z26, Z25, Z4q, Z4s, Z4r, Z4p, Z1u, Z1v, Z1t, Z40, Z3x, Z3z, Z3y, Z41, Z1s, Z2j, Z3d, Z4f, Z1k, Z1l, Z1m, Z4d, Z4e, Z1i, Z2i, Z1j, Z3v, Z3s, Z3u, Z3t, Z3w, Z4l, Z4k, Z0v, Z0w, Z0x, Z0u, Z1h, Z4w, Z4v, Z4x, Z4u, Z4t, ex, Z4n, Z4m, ev_t, ev_c, Z2h, Z2g, Z4y, Z4z, Z2x, Z2w, Z2q, Z2u, Z2v, Z2r, Z2s, Z2t, putc, exBslice, lfill, exField, exIdxV, exIdxP, exBox, exAlloc, Z3o, Z3p, exStore, exFieldA, Z3h, Z3g, Z3m, Z3l, exPick, exUn, exBeq, exMM, exSeq, seqGo, exExt, binV, intOp, subc, Z5c, Z5b, Z59, Z5a, Z57, Z55, Z56, Z58, Z52, Z53, Z50, Z5d, S0, encI, encB, encDE, encDet, RetC, evC, RV.ev, ldC, packC]
  exact .closed _ (closed_DE p)
theorem goF_some {kd : Kd} {n : Net} {most : Int} : ∀ (f i : Nat) {st st' : Sts}, stF kd n most i = some st → goF kd n most f i st = some st' → ∃ j, i ≤ j ∧ stF kd n most j = some st' ∧ j = st'.1.length
  | 0, i, st, st', h, e => by cases e
  | f + 1, i, st, st', h, e => by
    simp only [goF] at e
    split at e
    · rename_i hi; cases e; exact ⟨i, Nat.le_refl _, h, hi⟩
    · cases hn : nxF kd n most i st with
      | none => rw [hn] at e; cases e
      | some s2 =>
        rw [hn] at e
        obtain ⟨j, h1, h2, h3⟩ := goF_some f (i + 1) (st := s2) (by simp only [stF, h, hn]) e
        exact ⟨j, by omega, h2, h3⟩
theorem dmake_some {kd : Kd} {n : Net} {most : Int} {st : Sts} (h : dmakeF kd n most = some st) : stF kd n most st.1.length = some st := by
  obtain ⟨j, _, h2, h3⟩ := goF_some _ 0 (st := ([[0]], [], [])) rfl h
  rwa [h3] at h2
theorem resD_ok (kd : Kd) (n : Net) (most : Int) : DetOk (resD kd n most).1 := by
  unfold resD
  split
  · rename_i h
    have R := (rightN_iff n).mp h.1
    cases hm : dmakeF kd n most with
    | none => exact ⟨by simp [Len], by simp [Len], by simp, by simp⟩
    | some st =>
      have ok := stF_ok R h.2.1 _ (dmake_some hm)
      have h1 := ok.ss.l
      have h2 := ok.nx
      have h3 := ok.en
      have h4 := R.s1
      have h5 := R.s2
      refine ⟨by unfold Len; simp only; omega, by unfold Len; simp only; omega, fun r hr => ?_, by simp only; omega⟩
      have := ok.row r hr
      unfold Len; omega
  · exact ⟨by simp [Len], by simp [Len], by simp, by simp⟩
end Go.Rf

