import Derived.Test.YtajombmjidnbcaaDoorRfP9
/- Own work: LeastMade, LeastAlone. -/
set_option linter.unusedVariables false
set_option linter.unusedSimpArgs false
namespace Go.Rf
open Go.RowKit
def c_la_c (f_least_Of f_caesuraref16_Empty f_caesuraref15_Same f_least_Equal : FuncId) : AC :=
  (.seq (.reg none [
   ⟨(some 54), .load (some 3) (.t 2), none, none⟩,
   ⟨(some 55), .mv (.c .junk), none, (some ((.c (.clo f_least_Of [] [])), [(.t 54)]))⟩,
   ⟨(some 53), .mv (.t 55), none, none⟩,
   ⟨(some 56), .ext 0 (.t 53), none, none⟩,
   ⟨(some 57), .ext 1 (.t 53), none, none⟩,
   ⟨(some 7), .alloc (.agg [(.v (.int .i64 0)), (.sl true []), (.sl true [])]) 3, none, none⟩,
   ⟨none, .store 3 (.t 7) (.t 56), none, none⟩,
   ⟨(some 8), .mv (.t 57), none, none⟩])
  (.seq (.reg none [
   ⟨(some 59), .load (some 3) (.t 3), none, none⟩,
   ⟨(some 60), .mv (.c .junk), none, (some ((.c (.clo f_least_Of [] [])), [(.t 59)]))⟩,
   ⟨(some 58), .mv (.t 60), none, none⟩,
   ⟨(some 61), .ext 0 (.t 58), none, none⟩,
   ⟨(some 62), .ext 1 (.t 58), none, none⟩,
   ⟨(some 9), .alloc (.agg [(.v (.int .i64 0)), (.sl true []), (.sl true [])]) 3, none, none⟩,
   ⟨none, .store 3 (.t 9) (.t 61), none, none⟩,
   ⟨(some 10), .mv (.t 62), none, none⟩])
  (.seq (.reg none [
   ⟨(some 63), .load (some 3) (.t 5), none, none⟩,
   ⟨(some 64), .mv (.c .junk), none, (some ((.c (.clo f_caesuraref16_Empty [] [])), [(.t 63)]))⟩,
   ⟨(some 11), .mv (.t 64), none, none⟩])
  (.seq (.reg none [
   ⟨(some 65), .mv (.t 6), none, none⟩,
   ⟨(some 66), .bin .eql (.t 65) (.c (.v (.int .i64 0))), none, none⟩,
   ⟨(some 67), .mv (.t 66), none, none⟩,
   ⟨(some 68), .mv (.t 8), (some (67, true)), none⟩,
   ⟨(some 69), .bin .eql (.t 68) (.c (.v (.int .i64 0))), (some (67, true)), none⟩,
   ⟨(some 70), .pick (.t 67) (.t 69) (.c (.v (.bool false))), none, none⟩,
   ⟨(some 71), .mv (.t 70), none, none⟩,
   ⟨(some 72), .mv (.t 10), (some (71, true)), none⟩,
   ⟨(some 73), .bin .eql (.t 72) (.c (.v (.int .i64 0))), (some (71, true)), none⟩,
   ⟨(some 74), .pick (.t 71) (.t 73) (.c (.v (.bool false))), none, none⟩,
   ⟨(some 75), .mv (.t 74), none, none⟩,
   ⟨(some 76), .load (some 3) (.t 7), (some (75, true)), none⟩,
   ⟨(some 77), .load (some 3) (.t 9), (some (75, true)), none⟩,
   ⟨(some 78), .mv (.c .junk), (some (75, true)), (some ((.c (.clo f_caesuraref15_Same [] [])), [(.t 76), (.t 77)]))⟩,
   ⟨(some 79), .mv (.t 11), (some (75, true)), none⟩,
   ⟨(some 80), .beq false (.t 78) (.t 79), (some (75, true)), none⟩,
   ⟨(some 81), .pick (.t 75) (.t 80) (.c (.v (.bool false))), none, none⟩,
   ⟨(some 82), .mv (.t 81), none, none⟩,
   ⟨(some 83), .load (some 3) (.t 2), (some (82, true)), none⟩,
   ⟨(some 84), .load (some 3) (.t 3), (some (82, true)), none⟩,
   ⟨(some 85), .mv (.c .junk), (some (82, true)), (some ((.c (.clo f_least_Equal [] [])), [(.t 83), (.t 84)]))⟩,
   ⟨(some 86), .mv (.t 11), (some (82, true)), none⟩,
   ⟨(some 87), .beq false (.t 85) (.t 86), (some (82, true)), none⟩,
   ⟨(some 88), .pick (.t 82) (.t 87) (.c (.v (.bool false))), none, none⟩,
   ⟨(some 4), .mv (.t 88), none, none⟩])
  .ret))))
def c_caesuralaw17_LeastAlone (f_caesuralaw17_alive f_caesuraref15_Great f_caesuraref15_Right f_caesuraref16_Xor f_least_Of f_caesuraref16_Empty f_caesuraref15_Same f_least_Equal : FuncId) : AC :=
  (.seq (.reg none [
   ⟨(some 2), .box 3 (.t 0), none, none⟩,
   ⟨(some 3), .box 3 (.t 1), none, none⟩,
   ⟨(some 4), .mv (.c (.v (.bool false))), none, none⟩])
  (.seq (.seq (.reg none [
   ⟨(some 12), .mv (.c .junk), none, (some ((.c (.clo f_caesuralaw17_alive [] [])), []))⟩,
   ⟨(some 13), .un .not (.t 12), none, none⟩])
  (.cond (.t 13) (.seq (.reg none [
    ⟨(some 4), .mv (.c (.v (.bool false))), none, none⟩])
   .ret) .skip))
  (.seq (.seq (.reg none [
   ⟨(some 14), .load (some 3) (.t 2), none, none⟩,
   ⟨(some 15), .mv (.c .junk), none, (some ((.c (.clo f_caesuraref15_Great [] [])), [(.t 14), (.c (.v (.int .i64 200)))]))⟩,
   ⟨(some 16), .mv (.t 15), none, none⟩,
   ⟨(some 17), .load (some 3) (.t 3), (some (16, false)), none⟩,
   ⟨(some 18), .mv (.c .junk), (some (16, false)), (some ((.c (.clo f_caesuraref15_Great [] [])), [(.t 17), (.c (.v (.int .i64 200)))]))⟩,
   ⟨(some 19), .pick (.t 16) (.c (.v (.bool true))) (.t 18), none, none⟩,
   ⟨(some 20), .mv (.t 19), none, none⟩,
   ⟨(some 21), .load (some 3) (.t 2), (some (20, false)), none⟩,
   ⟨(some 22), .mv (.c .junk), (some (20, false)), (some ((.c (.clo f_caesuraref15_Right [] [])), [(.t 21)]))⟩,
   ⟨(some 23), .un .not (.t 22), (some (20, false)), none⟩,
   ⟨(some 24), .pick (.t 20) (.c (.v (.bool true))) (.t 23), none, none⟩,
   ⟨(some 25), .mv (.t 24), none, none⟩,
   ⟨(some 26), .load (some 3) (.t 3), (some (25, false)), none⟩,
   ⟨(some 27), .mv (.c .junk), (some (25, false)), (some ((.c (.clo f_caesuraref15_Right [] [])), [(.t 26)]))⟩,
   ⟨(some 28), .un .not (.t 27), (some (25, false)), none⟩,
   ⟨(some 29), .pick (.t 25) (.c (.v (.bool true))) (.t 28), none, none⟩,
   ⟨(some 30), .mv (.t 29), none, none⟩,
   ⟨(some 31), .fieldA 0 (.t 2), (some (30, false)), none⟩,
   ⟨(some 32), .load none (.t 31), (some (30, false)), none⟩,
   ⟨(some 33), .fieldA 0 (.t 3), (some (30, false)), none⟩,
   ⟨(some 34), .load none (.t 33), (some (30, false)), none⟩,
   ⟨(some 35), .bin .neq (.t 32) (.t 34), (some (30, false)), none⟩,
   ⟨(some 36), .pick (.t 30) (.c (.v (.bool true))) (.t 35), none, none⟩,
   ⟨(some 37), .mv (.t 36), none, none⟩,
   ⟨(some 38), .fieldA 1 (.t 2), (some (37, false)), none⟩,
   ⟨(some 39), .load none (.t 38), (some (37, false)), none⟩,
   ⟨(some 40), .len (.t 39), (some (37, false)), none⟩,
   ⟨(some 41), .fieldA 1 (.t 3), (some (37, false)), none⟩,
   ⟨(some 42), .load none (.t 41), (some (37, false)), none⟩,
   ⟨(some 43), .len (.t 42), (some (37, false)), none⟩,
   ⟨(some 44), .bin .mul (.t 40) (.t 43), (some (37, false)), none⟩,
   ⟨(some 45), .bin .gtr (.t 44) (.c (.v (.int .i64 1000))), (some (37, false)), none⟩,
   ⟨(some 46), .pick (.t 37) (.c (.v (.bool true))) (.t 45), none, none⟩])
  (.cond (.t 46) (.seq (.reg none [
    ⟨(some 4), .mv (.c (.v (.bool true))), none, none⟩])
   .ret) .skip))
  (.seq (.reg none [
   ⟨(some 48), .load (some 3) (.t 2), none, none⟩,
   ⟨(some 49), .load (some 3) (.t 3), none, none⟩,
   ⟨(some 50), .mv (.c .junk), none, (some ((.c (.clo f_caesuraref16_Xor [] [])), [(.t 48), (.t 49), (.c (.v (.int .i64 3000)))]))⟩,
   ⟨(some 47), .mv (.t 50), none, none⟩,
   ⟨(some 51), .ext 0 (.t 47), none, none⟩,
   ⟨(some 52), .ext 1 (.t 47), none, none⟩,
   ⟨(some 5), .alloc (.agg [(.v (.int .i64 0)), (.sl true []), (.sl true [])]) 3, none, none⟩,
   ⟨none, .store 3 (.t 5) (.t 51), none, none⟩,
   ⟨(some 6), .mv (.t 52), none, none⟩])
  (c_la_c f_least_Of f_caesuraref16_Empty f_caesuraref15_Same f_least_Equal)))))
theorem LeastAlone_body {P : Program} {fl fg fr fx fo fe fs fE : FuncId} (a b x p q : Det) (ga gb same : Bool) (hl : PureC P fl [] (encB true)) (hga : PureC P fg [encDet a, encI 200] (encB ga)) (hgb : PureC P fg [encDet b, encI 200] (encB gb))
    (hra : PureC P fr [encDet a] (encB (rightD a))) (hrb : PureC P fr [encDet b] (encB (rightD b)))
    (h : RightD a → RightD b → a.signs = b.signs → a.next.length * b.next.length ≤ 1000 → PureC P fx [encDet a, encDet b, encI 3000] (encDE (x, 0)) ∧ PureC P fo [encDet a] (encDE (p, 0)) ∧ PureC P fo [encDet b] (encDE (q, 0)) ∧
      PureC P fe [encDet x] (encB same) ∧ PureC P fs [encDet p, encDet q] (encB same) ∧ PureC P fE [encDet a, encDet b] (encB same)) :
    AWb P 0 (c_caesuralaw17_LeastAlone fl fg fr fx fo fe fs fE) (RetK [4] (FzK (encB true))) (argF [encDet a, encDet b]) S0 := by
  have cg := fun (d : Det) => cl_cons (closed_Det d) (cl_cons (Z2r 200) cl_nil)
  have c1 := fun (d : Det) => cl_cons (closed_Det d) cl_nil
  have c2 := fun (d e : Det) => cl_cons (closed_Det d) (cl_cons (closed_Det e) cl_nil)
  have c3 := fun (d e : Det) => cl_cons (closed_Det d) (cl_cons (closed_Det e) (cl_cons (Z2r 3000) cl_nil))
  simp [AWb_seq, Z0m, Z0n, Z0j, Z0k, Z0r, Z0l, Z0p, Z0q, Z0o, Z21, Z20, Z22, Z23, Z3d, Z3e, Z3a, vIdx, Z4x, Z4w, Z4y, vApp, Z4u, Z3u, Z11, Z10, Z0z, Z0x, Z0w, Z0y, Z17, Z16, Z15, Z13, Z12, Z14, Z2c, Z2d, Z2a, Z2n, Z31, Z30, Z07, Z08, Z06, Z01, Z02, Z00, Z04, Z05, Z03, Z1z, Z1y, Z46, Z48, Z47, Z45, Z1n, Z1o, Z1m, Z3n, Z3k, Z3m, Z3l, Z3o, Z1l, Z29, Z32, Z3x, Z1i, Z1j, Z1k, Z3v, Z3w, Z1g, Z28, Z1h, Z3i, Z3f, Z3h, Z3g, Z3j, Z41, Z40, Z0t, Z0u, Z0v, Z0s, Z1f, Z4c, Z4b, Z4d, Z4a, Z49, ex, Z43, Z42, ev_t, ev_c, Z27, Z26, Z4e, Z4f, Z2m, Z2l, Z2f, Z2j, Z2k, Z2g, Z2h, Z2i, putc, exBslice, lfill, exField, exIdxV, exIdxP, exBox, exAlloc, Z3b, Z3c, exStore, exFieldA, Z34, Z33, Z39, Z38, exPick, exUn, exBeq, exMM, exSeq, seqGo, exExt, binV, intOp, subc, Z4s, Z4r, Z4p, Z4q, Z4n, Z4l, Z4m, Z4o, Z4i, Z4j, Z4g, Z4t, S0, encI, encB, Z4k, Z2e, Z25, Z4h, Z2b, Z24, Z36, Z37, Z35, Z3s, Z3t, Z3r, Z3p, Z3q, idxT_Bs, c_caesuralaw17_LeastAlone]
  refine CallR.pure hl cl_nil (Z2o _) ?_
  simp [AWb_seq, Z0m, Z0n, Z0j, Z0k, Z0r, Z0l, Z0p, Z0q, Z0o, Z21, Z20, Z22, Z23, Z3d, Z3e, Z3a, vIdx, Z4x, Z4w, Z4y, vApp, Z4u, Z3u, Z11, Z10, Z0z, Z0x, Z0w, Z0y, Z17, Z16, Z15, Z13, Z12, Z14, Z2c, Z2d, Z2a, Z2n, Z31, Z30, Z07, Z08, Z06, Z01, Z02, Z00, Z04, Z05, Z03, Z1z, Z1y, Z46, Z48, Z47, Z45, Z1n, Z1o, Z1m, Z3n, Z3k, Z3m, Z3l, Z3o, Z1l, Z29, Z32, Z3x, Z1i, Z1j, Z1k, Z3v, Z3w, Z1g, Z28, Z1h, Z3i, Z3f, Z3h, Z3g, Z3j, Z41, Z40, Z0t, Z0u, Z0v, Z0s, Z1f, Z4c, Z4b, Z4d, Z4a, Z49, ex, Z43, Z42, ev_t, ev_c, Z27, Z26, Z4e, Z4f, Z2m, Z2l, Z2f, Z2j, Z2k, Z2g, Z2h, Z2i, putc, exBslice, lfill, exField, exIdxV, exIdxP, exBox, exAlloc, Z3b, Z3c, exStore, exFieldA, Z34, Z33, Z39, Z38, exPick, exUn, exBeq, exMM, exSeq, seqGo, exExt, binV, intOp, subc, Z4s, Z4r, Z4p, Z4q, Z4n, Z4l, Z4m, Z4o, Z4i, Z4j, Z4g, Z4t, S0, encI, encB, Z4k, Z2e, Z25, Z4h, Z2b, Z24, Z36, Z37, Z35, Z3s, Z3t, Z3r, Z3p, Z3q, idxT_Bs]
  refine CallR.pure hga (cg a) (Z2o _) ?_
  cases ga with
  | true =>
    simp [AWb_seq, Z0m, Z0n, Z0j, Z0k, Z0r, Z0l, Z0p, Z0q, Z0o, Z21, Z20, Z22, Z23, Z3d, Z3e, Z3a, vIdx, Z4x, Z4w, Z4y, vApp, Z4u, Z3u, Z11, Z10, Z0z, Z0x, Z0w, Z0y, Z17, Z16, Z15, Z13, Z12, Z14, Z2c, Z2d, Z2a, Z2n, Z31, Z30, Z07, Z08, Z06, Z01, Z02, Z00, Z04, Z05, Z03, Z1z, Z1y, Z46, Z48, Z47, Z45, Z1n, Z1o, Z1m, Z3n, Z3k, Z3m, Z3l, Z3o, Z1l, Z29, Z32, Z3x, Z1i, Z1j, Z1k, Z3v, Z3w, Z1g, Z28, Z1h, Z3i, Z3f, Z3h, Z3g, Z3j, Z41, Z40, Z0t, Z0u, Z0v, Z0s, Z1f, Z4c, Z4b, Z4d, Z4a, Z49, ex, Z43, Z42, ev_t, ev_c, Z27, Z26, Z4e, Z4f, Z2m, Z2l, Z2f, Z2j, Z2k, Z2g, Z2h, Z2i, putc, exBslice, lfill, exField, exIdxV, exIdxP, exBox, exAlloc, Z3b, Z3c, exStore, exFieldA, Z34, Z33, Z39, Z38, exPick, exUn, exBeq, exMM, exSeq, seqGo, exExt, binV, intOp, subc, Z4s, Z4r, Z4p, Z4q, Z4n, Z4l, Z4m, Z4o, Z4i, Z4j, Z4g, Z4t, S0, encI, encB, Z4k, Z2e, Z25, Z4h, Z2b, Z24, Z36, Z37, Z35, Z3s, Z3t, Z3r, Z3p, Z3q, idxT_Bs]
    exact FzK_B true _
  | false =>
    simp [AWb_seq, Z0m, Z0n, Z0j, Z0k, Z0r, Z0l, Z0p, Z0q, Z0o, Z21, Z20, Z22, Z23, Z3d, Z3e, Z3a, vIdx, Z4x, Z4w, Z4y, vApp, Z4u, Z3u, Z11, Z10, Z0z, Z0x, Z0w, Z0y, Z17, Z16, Z15, Z13, Z12, Z14, Z2c, Z2d, Z2a, Z2n, Z31, Z30, Z07, Z08, Z06, Z01, Z02, Z00, Z04, Z05, Z03, Z1z, Z1y, Z46, Z48, Z47, Z45, Z1n, Z1o, Z1m, Z3n, Z3k, Z3m, Z3l, Z3o, Z1l, Z29, Z32, Z3x, Z1i, Z1j, Z1k, Z3v, Z3w, Z1g, Z28, Z1h, Z3i, Z3f, Z3h, Z3g, Z3j, Z41, Z40, Z0t, Z0u, Z0v, Z0s, Z1f, Z4c, Z4b, Z4d, Z4a, Z49, ex, Z43, Z42, ev_t, ev_c, Z27, Z26, Z4e, Z4f, Z2m, Z2l, Z2f, Z2j, Z2k, Z2g, Z2h, Z2i, putc, exBslice, lfill, exField, exIdxV, exIdxP, exBox, exAlloc, Z3b, Z3c, exStore, exFieldA, Z34, Z33, Z39, Z38, exPick, exUn, exBeq, exMM, exSeq, seqGo, exExt, binV, intOp, subc, Z4s, Z4r, Z4p, Z4q, Z4n, Z4l, Z4m, Z4o, Z4i, Z4j, Z4g, Z4t, S0, encI, encB, Z4k, Z2e, Z25, Z4h, Z2b, Z24, Z36, Z37, Z35, Z3s, Z3t, Z3r, Z3p, Z3q, idxT_Bs]
    refine CallR.pure hgb (cg b) (Z2o _) ?_
    cases gb with
    | true =>
      simp [AWb_seq, Z0m, Z0n, Z0j, Z0k, Z0r, Z0l, Z0p, Z0q, Z0o, Z21, Z20, Z22, Z23, Z3d, Z3e, Z3a, vIdx, Z4x, Z4w, Z4y, vApp, Z4u, Z3u, Z11, Z10, Z0z, Z0x, Z0w, Z0y, Z17, Z16, Z15, Z13, Z12, Z14, Z2c, Z2d, Z2a, Z2n, Z31, Z30, Z07, Z08, Z06, Z01, Z02, Z00, Z04, Z05, Z03, Z1z, Z1y, Z46, Z48, Z47, Z45, Z1n, Z1o, Z1m, Z3n, Z3k, Z3m, Z3l, Z3o, Z1l, Z29, Z32, Z3x, Z1i, Z1j, Z1k, Z3v, Z3w, Z1g, Z28, Z1h, Z3i, Z3f, Z3h, Z3g, Z3j, Z41, Z40, Z0t, Z0u, Z0v, Z0s, Z1f, Z4c, Z4b, Z4d, Z4a, Z49, ex, Z43, Z42, ev_t, ev_c, Z27, Z26, Z4e, Z4f, Z2m, Z2l, Z2f, Z2j, Z2k, Z2g, Z2h, Z2i, putc, exBslice, lfill, exField, exIdxV, exIdxP, exBox, exAlloc, Z3b, Z3c, exStore, exFieldA, Z34, Z33, Z39, Z38, exPick, exUn, exBeq, exMM, exSeq, seqGo, exExt, binV, intOp, subc, Z4s, Z4r, Z4p, Z4q, Z4n, Z4l, Z4m, Z4o, Z4i, Z4j, Z4g, Z4t, S0, encI, encB, Z4k, Z2e, Z25, Z4h, Z2b, Z24, Z36, Z37, Z35, Z3s, Z3t, Z3r, Z3p, Z3q, idxT_Bs]
      exact FzK_B true _
    | false =>
      simp [AWb_seq, Z0m, Z0n, Z0j, Z0k, Z0r, Z0l, Z0p, Z0q, Z0o, Z21, Z20, Z22, Z23, Z3d, Z3e, Z3a, vIdx, Z4x, Z4w, Z4y, vApp, Z4u, Z3u, Z11, Z10, Z0z, Z0x, Z0w, Z0y, Z17, Z16, Z15, Z13, Z12, Z14, Z2c, Z2d, Z2a, Z2n, Z31, Z30, Z07, Z08, Z06, Z01, Z02, Z00, Z04, Z05, Z03, Z1z, Z1y, Z46, Z48, Z47, Z45, Z1n, Z1o, Z1m, Z3n, Z3k, Z3m, Z3l, Z3o, Z1l, Z29, Z32, Z3x, Z1i, Z1j, Z1k, Z3v, Z3w, Z1g, Z28, Z1h, Z3i, Z3f, Z3h, Z3g, Z3j, Z41, Z40, Z0t, Z0u, Z0v, Z0s, Z1f, Z4c, Z4b, Z4d, Z4a, Z49, ex, Z43, Z42, ev_t, ev_c, Z27, Z26, Z4e, Z4f, Z2m, Z2l, Z2f, Z2j, Z2k, Z2g, Z2h, Z2i, putc, exBslice, lfill, exField, exIdxV, exIdxP, exBox, exAlloc, Z3b, Z3c, exStore, exFieldA, Z34, Z33, Z39, Z38, exPick, exUn, exBeq, exMM, exSeq, seqGo, exExt, binV, intOp, subc, Z4s, Z4r, Z4p, Z4q, Z4n, Z4l, Z4m, Z4o, Z4i, Z4j, Z4g, Z4t, S0, encI, encB, Z4k, Z2e, Z25, Z4h, Z2b, Z24, Z36, Z37, Z35, Z3s, Z3t, Z3r, Z3p, Z3q, idxT_Bs]
      refine CallR.pure hra (c1 a) (Z2o _) ?_
      cases hA : rightD a with
      | false =>
        simp [AWb_seq, Z0m, Z0n, Z0j, Z0k, Z0r, Z0l, Z0p, Z0q, Z0o, Z21, Z20, Z22, Z23, Z3d, Z3e, Z3a, vIdx, Z4x, Z4w, Z4y, vApp, Z4u, Z3u, Z11, Z10, Z0z, Z0x, Z0w, Z0y, Z17, Z16, Z15, Z13, Z12, Z14, Z2c, Z2d, Z2a, Z2n, Z31, Z30, Z07, Z08, Z06, Z01, Z02, Z00, Z04, Z05, Z03, Z1z, Z1y, Z46, Z48, Z47, Z45, Z1n, Z1o, Z1m, Z3n, Z3k, Z3m, Z3l, Z3o, Z1l, Z29, Z32, Z3x, Z1i, Z1j, Z1k, Z3v, Z3w, Z1g, Z28, Z1h, Z3i, Z3f, Z3h, Z3g, Z3j, Z41, Z40, Z0t, Z0u, Z0v, Z0s, Z1f, Z4c, Z4b, Z4d, Z4a, Z49, ex, Z43, Z42, ev_t, ev_c, Z27, Z26, Z4e, Z4f, Z2m, Z2l, Z2f, Z2j, Z2k, Z2g, Z2h, Z2i, putc, exBslice, lfill, exField, exIdxV, exIdxP, exBox, exAlloc, Z3b, Z3c, exStore, exFieldA, Z34, Z33, Z39, Z38, exPick, exUn, exBeq, exMM, exSeq, seqGo, exExt, binV, intOp, subc, Z4s, Z4r, Z4p, Z4q, Z4n, Z4l, Z4m, Z4o, Z4i, Z4j, Z4g, Z4t, S0, encI, encB, Z4k, Z2e, Z25, Z4h, Z2b, Z24, Z36, Z37, Z35, Z3s, Z3t, Z3r, Z3p, Z3q, idxT_Bs]
        exact FzK_B true _
      | true =>
        simp [AWb_seq, Z0m, Z0n, Z0j, Z0k, Z0r, Z0l, Z0p, Z0q, Z0o, Z21, Z20, Z22, Z23, Z3d, Z3e, Z3a, vIdx, Z4x, Z4w, Z4y, vApp, Z4u, Z3u, Z11, Z10, Z0z, Z0x, Z0w, Z0y, Z17, Z16, Z15, Z13, Z12, Z14, Z2c, Z2d, Z2a, Z2n, Z31, Z30, Z07, Z08, Z06, Z01, Z02, Z00, Z04, Z05, Z03, Z1z, Z1y, Z46, Z48, Z47, Z45, Z1n, Z1o, Z1m, Z3n, Z3k, Z3m, Z3l, Z3o, Z1l, Z29, Z32, Z3x, Z1i, Z1j, Z1k, Z3v, Z3w, Z1g, Z28, Z1h, Z3i, Z3f, Z3h, Z3g, Z3j, Z41, Z40, Z0t, Z0u, Z0v, Z0s, Z1f, Z4c, Z4b, Z4d, Z4a, Z49, ex, Z43, Z42, ev_t, ev_c, Z27, Z26, Z4e, Z4f, Z2m, Z2l, Z2f, Z2j, Z2k, Z2g, Z2h, Z2i, putc, exBslice, lfill, exField, exIdxV, exIdxP, exBox, exAlloc, Z3b, Z3c, exStore, exFieldA, Z34, Z33, Z39, Z38, exPick, exUn, exBeq, exMM, exSeq, seqGo, exExt, binV, intOp, subc, Z4s, Z4r, Z4p, Z4q, Z4n, Z4l, Z4m, Z4o, Z4i, Z4j, Z4g, Z4t, S0, encI, encB, Z4k, Z2e, Z25, Z4h, Z2b, Z24, Z36, Z37, Z35, Z3s, Z3t, Z3r, Z3p, Z3q, idxT_Bs]
        refine CallR.pure hrb (c1 b) (Z2o _) ?_
        cases hB : rightD b with
        | false =>
          simp [AWb_seq, Z0m, Z0n, Z0j, Z0k, Z0r, Z0l, Z0p, Z0q, Z0o, Z21, Z20, Z22, Z23, Z3d, Z3e, Z3a, vIdx, Z4x, Z4w, Z4y, vApp, Z4u, Z3u, Z11, Z10, Z0z, Z0x, Z0w, Z0y, Z17, Z16, Z15, Z13, Z12, Z14, Z2c, Z2d, Z2a, Z2n, Z31, Z30, Z07, Z08, Z06, Z01, Z02, Z00, Z04, Z05, Z03, Z1z, Z1y, Z46, Z48, Z47, Z45, Z1n, Z1o, Z1m, Z3n, Z3k, Z3m, Z3l, Z3o, Z1l, Z29, Z32, Z3x, Z1i, Z1j, Z1k, Z3v, Z3w, Z1g, Z28, Z1h, Z3i, Z3f, Z3h, Z3g, Z3j, Z41, Z40, Z0t, Z0u, Z0v, Z0s, Z1f, Z4c, Z4b, Z4d, Z4a, Z49, ex, Z43, Z42, ev_t, ev_c, Z27, Z26, Z4e, Z4f, Z2m, Z2l, Z2f, Z2j, Z2k, Z2g, Z2h, Z2i, putc, exBslice, lfill, exField, exIdxV, exIdxP, exBox, exAlloc, Z3b, Z3c, exStore, exFieldA, Z34, Z33, Z39, Z38, exPick, exUn, exBeq, exMM, exSeq, seqGo, exExt, binV, intOp, subc, Z4s, Z4r, Z4p, Z4q, Z4n, Z4l, Z4m, Z4o, Z4i, Z4j, Z4g, Z4t, S0, encI, encB, Z4k, Z2e, Z25, Z4h, Z2b, Z24, Z36, Z37, Z35, Z3s, Z3t, Z3r, Z3p, Z3q, idxT_Bs]
          exact FzK_B true _
        | true =>
          have Ra := (right_iff a).mp hA
          have Rb := (right_iff b).mp hB
          by_cases hs : a.signs = b.signs
          · have hs' : (a.signs != b.signs) = false := by simp [hs]
            have hn1 := Ra.n2
            have hn2 := Rb.n2
            have hmul : a.next.length * b.next.length ≤ 3000 * 3000 := Nat.mul_le_mul hn1 hn2
            have hw : IntKind.i64.wrap ((a.next.length : Int) * b.next.length) = (a.next.length : Int) * b.next.length := wrap_in _ (by
              rw [← Int.natCast_mul]; omega)
            by_cases h6 : a.next.length * b.next.length ≤ 1000
            · have h6' : ¬ (1000 : Int) < (a.next.length : Int) * b.next.length := by rw [← Int.natCast_mul]; omega
              obtain ⟨k1, k2, k3, k4, k5, k6⟩ := h Ra Rb hs h6
              simp [AWb_seq, Z0m, Z0n, Z0j, Z0k, Z0r, Z0l, Z0p, Z0q, Z0o, Z21, Z20, Z22, Z23, Z3d, Z3e, Z3a, vIdx, Z4x, Z4w, Z4y, vApp, Z4u, Z3u, Z11, Z10, Z0z, Z0x, Z0w, Z0y, Z17, Z16, Z15, Z13, Z12, Z14, Z2c, Z2d, Z2a, Z2n, Z31, Z30, Z07, Z08, Z06, Z01, Z02, Z00, Z04, Z05, Z03, Z1z, Z1y, Z46, Z48, Z47, Z45, Z1n, Z1o, Z1m, Z3n, Z3k, Z3m, Z3l, Z3o, Z1l, Z29, Z32, Z3x, Z1i, Z1j, Z1k, Z3v, Z3w, Z1g, Z28, Z1h, Z3i, Z3f, Z3h, Z3g, Z3j, Z41, Z40, Z0t, Z0u, Z0v, Z0s, Z1f, Z4c, Z4b, Z4d, Z4a, Z49, ex, Z43, Z42, ev_t, ev_c, Z27, Z26, Z4e, Z4f, Z2m, Z2l, Z2f, Z2j, Z2k, Z2g, Z2h, Z2i, putc, exBslice, lfill, exField, exIdxV, exIdxP, exBox, exAlloc, Z3b, Z3c, exStore, exFieldA, Z34, Z33, Z39, Z38, exPick, exUn, exBeq, exMM, exSeq, seqGo, exExt, binV, intOp, subc, Z4s, Z4r, Z4p, Z4q, Z4n, Z4l, Z4m, Z4o, Z4i, Z4j, Z4g, Z4t, S0, encI, encB, Z4k, Z2e, Z25, Z4h, Z2b, Z24, Z36, Z37, Z35, Z3s, Z3t, Z3r, Z3p, Z3q, idxT_Bs, hs', hw, h6']
              refine CallR.pure k1 (c3 a b) (closed_DE _) ?_
              simp [AWb_seq, Z0m, Z0n, Z0j, Z0k, Z0r, Z0l, Z0p, Z0q, Z0o, Z21, Z20, Z22, Z23, Z3d, Z3e, Z3a, vIdx, Z4x, Z4w, Z4y, vApp, Z4u, Z3u, Z11, Z10, Z0z, Z0x, Z0w, Z0y, Z17, Z16, Z15, Z13, Z12, Z14, Z2c, Z2d, Z2a, Z2n, Z31, Z30, Z07, Z08, Z06, Z01, Z02, Z00, Z04, Z05, Z03, Z1z, Z1y, Z46, Z48, Z47, Z45, Z1n, Z1o, Z1m, Z3n, Z3k, Z3m, Z3l, Z3o, Z1l, Z29, Z32, Z3x, Z1i, Z1j, Z1k, Z3v, Z3w, Z1g, Z28, Z1h, Z3i, Z3f, Z3h, Z3g, Z3j, Z41, Z40, Z0t, Z0u, Z0v, Z0s, Z1f, Z4c, Z4b, Z4d, Z4a, Z49, ex, Z43, Z42, ev_t, ev_c, Z27, Z26, Z4e, Z4f, Z2m, Z2l, Z2f, Z2j, Z2k, Z2g, Z2h, Z2i, putc, exBslice, lfill, exField, exIdxV, exIdxP, exBox, exAlloc, Z3b, Z3c, exStore, exFieldA, Z34, Z33, Z39, Z38, exPick, exUn, exBeq, exMM, exSeq, seqGo, exExt, binV, intOp, subc, Z4s, Z4r, Z4p, Z4q, Z4n, Z4l, Z4m, Z4o, Z4i, Z4j, Z4g, Z4t, S0, encI, encB, Z4k, Z2e, Z25, Z4h, Z2b, Z24, Z36, Z37, Z35, Z3s, Z3t, Z3r, Z3p, Z3q, idxT_Bs, encDE, c_la_c]
              refine CallR.pure k2 (c1 a) (closed_DE _) ?_
              simp [AWb_seq, Z0m, Z0n, Z0j, Z0k, Z0r, Z0l, Z0p, Z0q, Z0o, Z21, Z20, Z22, Z23, Z3d, Z3e, Z3a, vIdx, Z4x, Z4w, Z4y, vApp, Z4u, Z3u, Z11, Z10, Z0z, Z0x, Z0w, Z0y, Z17, Z16, Z15, Z13, Z12, Z14, Z2c, Z2d, Z2a, Z2n, Z31, Z30, Z07, Z08, Z06, Z01, Z02, Z00, Z04, Z05, Z03, Z1z, Z1y, Z46, Z48, Z47, Z45, Z1n, Z1o, Z1m, Z3n, Z3k, Z3m, Z3l, Z3o, Z1l, Z29, Z32, Z3x, Z1i, Z1j, Z1k, Z3v, Z3w, Z1g, Z28, Z1h, Z3i, Z3f, Z3h, Z3g, Z3j, Z41, Z40, Z0t, Z0u, Z0v, Z0s, Z1f, Z4c, Z4b, Z4d, Z4a, Z49, ex, Z43, Z42, ev_t, ev_c, Z27, Z26, Z4e, Z4f, Z2m, Z2l, Z2f, Z2j, Z2k, Z2g, Z2h, Z2i, putc, exBslice, lfill, exField, exIdxV, exIdxP, exBox, exAlloc, Z3b, Z3c, exStore, exFieldA, Z34, Z33, Z39, Z38, exPick, exUn, exBeq, exMM, exSeq, seqGo, exExt, binV, intOp, subc, Z4s, Z4r, Z4p, Z4q, Z4n, Z4l, Z4m, Z4o, Z4i, Z4j, Z4g, Z4t, S0, encI, encB, Z4k, Z2e, Z25, Z4h, Z2b, Z24, Z36, Z37, Z35, Z3s, Z3t, Z3r, Z3p, Z3q, idxT_Bs, encDE]
              refine CallR.pure k3 (c1 b) (closed_DE _) ?_
              simp [AWb_seq, Z0m, Z0n, Z0j, Z0k, Z0r, Z0l, Z0p, Z0q, Z0o, Z21, Z20, Z22, Z23, Z3d, Z3e, Z3a, vIdx, Z4x, Z4w, Z4y, vApp, Z4u, Z3u, Z11, Z10, Z0z, Z0x, Z0w, Z0y, Z17, Z16, Z15, Z13, Z12, Z14, Z2c, Z2d, Z2a, Z2n, Z31, Z30, Z07, Z08, Z06, Z01, Z02, Z00, Z04, Z05, Z03, Z1z, Z1y, Z46, Z48, Z47, Z45, Z1n, Z1o, Z1m, Z3n, Z3k, Z3m, Z3l, Z3o, Z1l, Z29, Z32, Z3x, Z1i, Z1j, Z1k, Z3v, Z3w, Z1g, Z28, Z1h, Z3i, Z3f, Z3h, Z3g, Z3j, Z41, Z40, Z0t, Z0u, Z0v, Z0s, Z1f, Z4c, Z4b, Z4d, Z4a, Z49, ex, Z43, Z42, ev_t, ev_c, Z27, Z26, Z4e, Z4f, Z2m, Z2l, Z2f, Z2j, Z2k, Z2g, Z2h, Z2i, putc, exBslice, lfill, exField, exIdxV, exIdxP, exBox, exAlloc, Z3b, Z3c, exStore, exFieldA, Z34, Z33, Z39, Z38, exPick, exUn, exBeq, exMM, exSeq, seqGo, exExt, binV, intOp, subc, Z4s, Z4r, Z4p, Z4q, Z4n, Z4l, Z4m, Z4o, Z4i, Z4j, Z4g, Z4t, S0, encI, encB, Z4k, Z2e, Z25, Z4h, Z2b, Z24, Z36, Z37, Z35, Z3s, Z3t, Z3r, Z3p, Z3q, idxT_Bs, encDE]
              refine CallR.pure k4 (c1 x) (Z2o _) ?_
              simp [AWb_seq, Z0m, Z0n, Z0j, Z0k, Z0r, Z0l, Z0p, Z0q, Z0o, Z21, Z20, Z22, Z23, Z3d, Z3e, Z3a, vIdx, Z4x, Z4w, Z4y, vApp, Z4u, Z3u, Z11, Z10, Z0z, Z0x, Z0w, Z0y, Z17, Z16, Z15, Z13, Z12, Z14, Z2c, Z2d, Z2a, Z2n, Z31, Z30, Z07, Z08, Z06, Z01, Z02, Z00, Z04, Z05, Z03, Z1z, Z1y, Z46, Z48, Z47, Z45, Z1n, Z1o, Z1m, Z3n, Z3k, Z3m, Z3l, Z3o, Z1l, Z29, Z32, Z3x, Z1i, Z1j, Z1k, Z3v, Z3w, Z1g, Z28, Z1h, Z3i, Z3f, Z3h, Z3g, Z3j, Z41, Z40, Z0t, Z0u, Z0v, Z0s, Z1f, Z4c, Z4b, Z4d, Z4a, Z49, ex, Z43, Z42, ev_t, ev_c, Z27, Z26, Z4e, Z4f, Z2m, Z2l, Z2f, Z2j, Z2k, Z2g, Z2h, Z2i, putc, exBslice, lfill, exField, exIdxV, exIdxP, exBox, exAlloc, Z3b, Z3c, exStore, exFieldA, Z34, Z33, Z39, Z38, exPick, exUn, exBeq, exMM, exSeq, seqGo, exExt, binV, intOp, subc, Z4s, Z4r, Z4p, Z4q, Z4n, Z4l, Z4m, Z4o, Z4i, Z4j, Z4g, Z4t, S0, encI, encB, Z4k, Z2e, Z25, Z4h, Z2b, Z24, Z36, Z37, Z35, Z3s, Z3t, Z3r, Z3p, Z3q, idxT_Bs]
              refine CallR.pure k5 (c2 p q) (Z2o _) ?_
              simp [AWb_seq, Z0m, Z0n, Z0j, Z0k, Z0r, Z0l, Z0p, Z0q, Z0o, Z21, Z20, Z22, Z23, Z3d, Z3e, Z3a, vIdx, Z4x, Z4w, Z4y, vApp, Z4u, Z3u, Z11, Z10, Z0z, Z0x, Z0w, Z0y, Z17, Z16, Z15, Z13, Z12, Z14, Z2c, Z2d, Z2a, Z2n, Z31, Z30, Z07, Z08, Z06, Z01, Z02, Z00, Z04, Z05, Z03, Z1z, Z1y, Z46, Z48, Z47, Z45, Z1n, Z1o, Z1m, Z3n, Z3k, Z3m, Z3l, Z3o, Z1l, Z29, Z32, Z3x, Z1i, Z1j, Z1k, Z3v, Z3w, Z1g, Z28, Z1h, Z3i, Z3f, Z3h, Z3g, Z3j, Z41, Z40, Z0t, Z0u, Z0v, Z0s, Z1f, Z4c, Z4b, Z4d, Z4a, Z49, ex, Z43, Z42, ev_t, ev_c, Z27, Z26, Z4e, Z4f, Z2m, Z2l, Z2f, Z2j, Z2k, Z2g, Z2h, Z2i, putc, exBslice, lfill, exField, exIdxV, exIdxP, exBox, exAlloc, Z3b, Z3c, exStore, exFieldA, Z34, Z33, Z39, Z38, exPick, exUn, exBeq, exMM, exSeq, seqGo, exExt, binV, intOp, subc, Z4s, Z4r, Z4p, Z4q, Z4n, Z4l, Z4m, Z4o, Z4i, Z4j, Z4g, Z4t, S0, encI, encB, Z4k, Z2e, Z25, Z4h, Z2b, Z24, Z36, Z37, Z35, Z3s, Z3t, Z3r, Z3p, Z3q, idxT_Bs]
              refine CallR.pure k6 (c2 a b) (Z2o _) ?_
              simp [AWb_seq, Z0m, Z0n, Z0j, Z0k, Z0r, Z0l, Z0p, Z0q, Z0o, Z21, Z20, Z22, Z23, Z3d, Z3e, Z3a, vIdx, Z4x, Z4w, Z4y, vApp, Z4u, Z3u, Z11, Z10, Z0z, Z0x, Z0w, Z0y, Z17, Z16, Z15, Z13, Z12, Z14, Z2c, Z2d, Z2a, Z2n, Z31, Z30, Z07, Z08, Z06, Z01, Z02, Z00, Z04, Z05, Z03, Z1z, Z1y, Z46, Z48, Z47, Z45, Z1n, Z1o, Z1m, Z3n, Z3k, Z3m, Z3l, Z3o, Z1l, Z29, Z32, Z3x, Z1i, Z1j, Z1k, Z3v, Z3w, Z1g, Z28, Z1h, Z3i, Z3f, Z3h, Z3g, Z3j, Z41, Z40, Z0t, Z0u, Z0v, Z0s, Z1f, Z4c, Z4b, Z4d, Z4a, Z49, ex, Z43, Z42, ev_t, ev_c, Z27, Z26, Z4e, Z4f, Z2m, Z2l, Z2f, Z2j, Z2k, Z2g, Z2h, Z2i, putc, exBslice, lfill, exField, exIdxV, exIdxP, exBox, exAlloc, Z3b, Z3c, exStore, exFieldA, Z34, Z33, Z39, Z38, exPick, exUn, exBeq, exMM, exSeq, seqGo, exExt, binV, intOp, subc, Z4s, Z4r, Z4p, Z4q, Z4n, Z4l, Z4m, Z4o, Z4i, Z4j, Z4g, Z4t, S0, encI, encB, Z4k, Z2e, Z25, Z4h, Z2b, Z24, Z36, Z37, Z35, Z3s, Z3t, Z3r, Z3p, Z3q, idxT_Bs]
              exact FzK_B true _
            · have h6' : (1000 : Int) < (a.next.length : Int) * b.next.length := by rw [← Int.natCast_mul]; omega
              simp [AWb_seq, Z0m, Z0n, Z0j, Z0k, Z0r, Z0l, Z0p, Z0q, Z0o, Z21, Z20, Z22, Z23, Z3d, Z3e, Z3a, vIdx, Z4x, Z4w, Z4y, vApp, Z4u, Z3u, Z11, Z10, Z0z, Z0x, Z0w, Z0y, Z17, Z16, Z15, Z13, Z12, Z14, Z2c, Z2d, Z2a, Z2n, Z31, Z30, Z07, Z08, Z06, Z01, Z02, Z00, Z04, Z05, Z03, Z1z, Z1y, Z46, Z48, Z47, Z45, Z1n, Z1o, Z1m, Z3n, Z3k, Z3m, Z3l, Z3o, Z1l, Z29, Z32, Z3x, Z1i, Z1j, Z1k, Z3v, Z3w, Z1g, Z28, Z1h, Z3i, Z3f, Z3h, Z3g, Z3j, Z41, Z40, Z0t, Z0u, Z0v, Z0s, Z1f, Z4c, Z4b, Z4d, Z4a, Z49, ex, Z43, Z42, ev_t, ev_c, Z27, Z26, Z4e, Z4f, Z2m, Z2l, Z2f, Z2j, Z2k, Z2g, Z2h, Z2i, putc, exBslice, lfill, exField, exIdxV, exIdxP, exBox, exAlloc, Z3b, Z3c, exStore, exFieldA, Z34, Z33, Z39, Z38, exPick, exUn, exBeq, exMM, exSeq, seqGo, exExt, binV, intOp, subc, Z4s, Z4r, Z4p, Z4q, Z4n, Z4l, Z4m, Z4o, Z4i, Z4j, Z4g, Z4t, S0, encI, encB, Z4k, Z2e, Z25, Z4h, Z2b, Z24, Z36, Z37, Z35, Z3s, Z3t, Z3r, Z3p, Z3q, idxT_Bs, hs', hw, h6']
              exact FzK_B true _
          · have hs' : (a.signs != b.signs) = true := by simp [hs]
            simp [AWb_seq, Z0m, Z0n, Z0j, Z0k, Z0r, Z0l, Z0p, Z0q, Z0o, Z21, Z20, Z22, Z23, Z3d, Z3e, Z3a, vIdx, Z4x, Z4w, Z4y, vApp, Z4u, Z3u, Z11, Z10, Z0z, Z0x, Z0w, Z0y, Z17, Z16, Z15, Z13, Z12, Z14, Z2c, Z2d, Z2a, Z2n, Z31, Z30, Z07, Z08, Z06, Z01, Z02, Z00, Z04, Z05, Z03, Z1z, Z1y, Z46, Z48, Z47, Z45, Z1n, Z1o, Z1m, Z3n, Z3k, Z3m, Z3l, Z3o, Z1l, Z29, Z32, Z3x, Z1i, Z1j, Z1k, Z3v, Z3w, Z1g, Z28, Z1h, Z3i, Z3f, Z3h, Z3g, Z3j, Z41, Z40, Z0t, Z0u, Z0v, Z0s, Z1f, Z4c, Z4b, Z4d, Z4a, Z49, ex, Z43, Z42, ev_t, ev_c, Z27, Z26, Z4e, Z4f, Z2m, Z2l, Z2f, Z2j, Z2k, Z2g, Z2h, Z2i, putc, exBslice, lfill, exField, exIdxV, exIdxP, exBox, exAlloc, Z3b, Z3c, exStore, exFieldA, Z34, Z33, Z39, Z38, exPick, exUn, exBeq, exMM, exSeq, seqGo, exExt, binV, intOp, subc, Z4s, Z4r, Z4p, Z4q, Z4n, Z4l, Z4m, Z4o, Z4i, Z4j, Z4g, Z4t, S0, encI, encB, Z4k, Z2e, Z25, Z4h, Z2b, Z24, Z36, Z37, Z35, Z3s, Z3t, Z3r, Z3p, Z3q, idxT_Bs, hs']
            exact FzK_B true _
/-! ### what the two say -/
theorem empty_xor {a b : Det} (Ra : RightD a) (Rb : RightD b) (hs : a.signs = b.signs) (hl : a.next.length * b.next.length ≤ 3000) : emptyD (prodD a b (kindM 3)) = true ↔ XEq a b 0 0 := by
  obtain ⟨D, hx⟩ := prod_ok (mk := kindM 3) Ra Rb hs hl
  have h1 : rightD (prodD a b (kindM 3)) = true := (right_iff _).mpr D
  unfold emptyD
  rw [h1, Bool.true_and, emptyB_iff]
  have hk : ∀ p q, kindM 3 p q = (p != q) := fun p q => by simp [kindM]
  constructor
  · intro h l hv
    have h2 := h (runT (prodD a b (kindM 3)) 0 l) (runT_lt D l (by have := D.n1; omega) hv) ⟨l, hv, rfl⟩
    rw [hx l hv, hk] at h2
    simpa using h2
  · rintro h y hy ⟨l, hv, rfl⟩
    have h2 := h l hv
    rw [hx l hv, hk, h2]; simp
theorem sameD_iff (a b : Det) : sameD a b = true ↔ a = b := by
  obtain ⟨s, n, f⟩ := a
  obtain ⟨s', n', f'⟩ := b
  simp [sameD, and_assoc]
theorem alone_same {a b : Det} (Ra : RightD a) (Rb : RightD b) (hs : a.signs = b.signs) (hl : a.next.length * b.next.length ≤ 3000) : sameD (leastD a) (leastD b) = emptyD (prodD a b (kindM 3)) := by
  have h1 : sameD (leastD a) (leastD b) = true ↔ emptyD (prodD a b (kindM 3)) = true := by rw [sameD_iff, lalone_iff Ra Rb hs, empty_xor Ra Rb hs hl]
  cases h2 : sameD (leastD a) (leastD b) <;> cases h3 : emptyD (prodD a b (kindM 3)) <;> simp_all
end Go.Rf

