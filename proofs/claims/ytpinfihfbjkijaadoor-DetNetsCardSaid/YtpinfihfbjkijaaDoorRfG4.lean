import Derived.Test.YtpinfihfbjkijaaDoorRfNc
/- Own work: DetNets. -/
set_option linter.unusedVariables false
set_option linter.unusedSimpArgs false
namespace Go.Rf
open Go.RowKit
def c_dn_c (f_det_Tails f_det_Heads f_det_Right f_det_Accepts f_caesuraref13_Accepts f_caesuraref14_Tails f_caesuraref14_Heads : FuncId) : AC :=
  (.seq (.reg none [
   ⟨(some 63), .load (some 4) (.t 2), none, none⟩,
   ⟨(some 64), .mv (.c .junk), none, (some ((.c (.clo f_det_Tails [] [])), [(.t 63), (.c (.v (.int .i64 3000)))]))⟩,
   ⟨(some 62), .mv (.t 64), none, none⟩,
   ⟨(some 65), .ext 0 (.t 62), none, none⟩,
   ⟨(some 66), .ext 1 (.t 62), none, none⟩,
   ⟨(some 8), .alloc (.agg [(.v (.int .i64 0)), (.sl true []), (.sl true [])]) 3, none, none⟩,
   ⟨none, .store 3 (.t 8) (.t 65), none, none⟩,
   ⟨(some 9), .mv (.t 66), none, none⟩])
  (.seq (.reg none [
   ⟨(some 68), .load (some 4) (.t 2), none, none⟩,
   ⟨(some 69), .mv (.c .junk), none, (some ((.c (.clo f_det_Heads [] [])), [(.t 68), (.c (.v (.int .i64 3000)))]))⟩,
   ⟨(some 67), .mv (.t 69), none, none⟩,
   ⟨(some 70), .ext 0 (.t 67), none, none⟩,
   ⟨(some 71), .ext 1 (.t 67), none, none⟩,
   ⟨(some 10), .alloc (.agg [(.v (.int .i64 0)), (.sl true []), (.sl true [])]) 3, none, none⟩,
   ⟨none, .store 3 (.t 10) (.t 70), none, none⟩,
   ⟨(some 11), .mv (.t 71), none, none⟩])
  (.seq (.seq (.reg none [
   ⟨(some 72), .mv (.t 7), none, none⟩,
   ⟨(some 73), .bin .neq (.t 72) (.c (.v (.int .i64 0))), none, none⟩,
   ⟨(some 74), .mv (.t 73), none, none⟩,
   ⟨(some 75), .mv (.t 9), (some (74, false)), none⟩,
   ⟨(some 76), .bin .neq (.t 75) (.c (.v (.int .i64 0))), (some (74, false)), none⟩,
   ⟨(some 77), .pick (.t 74) (.c (.v (.bool true))) (.t 76), none, none⟩,
   ⟨(some 78), .mv (.t 77), none, none⟩,
   ⟨(some 79), .mv (.t 11), (some (78, false)), none⟩,
   ⟨(some 80), .bin .neq (.t 79) (.c (.v (.int .i64 0))), (some (78, false)), none⟩,
   ⟨(some 81), .pick (.t 78) (.c (.v (.bool true))) (.t 80), none, none⟩])
  (.cond (.t 81) (.seq (.reg none [
    ⟨(some 82), .mv (.t 7), none, none⟩,
    ⟨(some 83), .bin .eql (.t 82) (.c (.v (.int .i64 13))), none, none⟩,
    ⟨(some 84), .mv (.t 83), none, none⟩,
    ⟨(some 85), .mv (.t 9), (some (84, false)), none⟩,
    ⟨(some 86), .bin .eql (.t 85) (.c (.v (.int .i64 13))), (some (84, false)), none⟩,
    ⟨(some 87), .pick (.t 84) (.c (.v (.bool true))) (.t 86), none, none⟩,
    ⟨(some 88), .mv (.t 87), none, none⟩,
    ⟨(some 89), .mv (.t 11), (some (88, false)), none⟩,
    ⟨(some 90), .bin .eql (.t 89) (.c (.v (.int .i64 13))), (some (88, false)), none⟩,
    ⟨(some 91), .pick (.t 88) (.c (.v (.bool true))) (.t 90), none, none⟩,
    ⟨(some 4), .mv (.t 91), none, none⟩])
   .ret) .skip))
  (.seq (.reg (some []) [
   ⟨(some 92), .load (some 3) (.t 6), none, none⟩,
   ⟨(some 93), .mv (.c .junk), none, (some ((.c (.clo f_det_Right [] [])), [(.t 92)]))⟩,
   ⟨(some 94), .mv (.t 93), none, none⟩,
   ⟨(some 95), .load (some 3) (.t 8), (some (94, true)), none⟩,
   ⟨(some 96), .mv (.c .junk), (some (94, true)), (some ((.c (.clo f_det_Right [] [])), [(.t 95)]))⟩,
   ⟨(some 97), .pick (.t 94) (.t 96) (.c (.v (.bool false))), none, none⟩,
   ⟨(some 98), .mv (.t 97), none, none⟩,
   ⟨(some 99), .load (some 3) (.t 10), (some (98, true)), none⟩,
   ⟨(some 100), .mv (.c .junk), (some (98, true)), (some ((.c (.clo f_det_Right [] [])), [(.t 99)]))⟩,
   ⟨(some 101), .pick (.t 98) (.t 100) (.c (.v (.bool false))), none, none⟩,
   ⟨(some 102), .mv (.t 101), none, none⟩,
   ⟨(some 103), .load (some 3) (.t 6), (some (102, true)), none⟩,
   ⟨(some 104), .mv (.t 1), (some (102, true)), none⟩,
   ⟨(some 105), .mv (.c .junk), (some (102, true)), (some ((.c (.clo f_det_Accepts [] [])), [(.t 103), (.t 104)]))⟩,
   ⟨(some 106), .load (some 4) (.t 2), (some (102, true)), none⟩,
   ⟨(some 107), .mv (.t 1), (some (102, true)), none⟩,
   ⟨(some 108), .mv (.c .junk), (some (102, true)), (some ((.c (.clo f_caesuraref13_Accepts [] [])), [(.t 106), (.t 107)]))⟩,
   ⟨(some 109), .beq false (.t 105) (.t 108), (some (102, true)), none⟩,
   ⟨(some 110), .pick (.t 102) (.t 109) (.c (.v (.bool false))), none, none⟩,
   ⟨(some 111), .mv (.t 110), none, none⟩,
   ⟨(some 112), .load (some 3) (.t 8), (some (111, true)), none⟩,
   ⟨(some 113), .mv (.t 1), (some (111, true)), none⟩,
   ⟨(some 114), .mv (.c .junk), (some (111, true)), (some ((.c (.clo f_det_Accepts [] [])), [(.t 112), (.t 113)]))⟩,
   ⟨(some 115), .load (some 4) (.t 2), (some (111, true)), none⟩,
   ⟨(some 116), .mv (.t 1), (some (111, true)), none⟩,
   ⟨(some 117), .mv (.c .junk), (some (111, true)), (some ((.c (.clo f_caesuraref14_Tails [] [])), [(.t 115), (.t 116)]))⟩,
   ⟨(some 118), .len (.t 117), (some (111, true)), none⟩,
   ⟨(some 119), .bin .gtr (.t 118) (.c (.v (.int .i64 0))), (some (111, true)), none⟩,
   ⟨(some 120), .beq false (.t 114) (.t 119), (some (111, true)), none⟩,
   ⟨(some 121), .pick (.t 111) (.t 120) (.c (.v (.bool false))), none, none⟩,
   ⟨(some 122), .mv (.t 121), none, none⟩,
   ⟨(some 123), .load (some 3) (.t 10), (some (122, true)), none⟩,
   ⟨(some 124), .mv (.t 1), (some (122, true)), none⟩,
   ⟨(some 125), .mv (.c .junk), (some (122, true)), (some ((.c (.clo f_det_Accepts [] [])), [(.t 123), (.t 124)]))⟩,
   ⟨(some 126), .load (some 4) (.t 2), (some (122, true)), none⟩,
   ⟨(some 127), .mv (.t 1), (some (122, true)), none⟩,
   ⟨(some 128), .mv (.c .junk), (some (122, true)), (some ((.c (.clo f_caesuraref14_Heads [] [])), [(.t 126), (.t 127)]))⟩,
   ⟨(some 129), .len (.t 128), (some (122, true)), none⟩,
   ⟨(some 130), .bin .gtr (.t 129) (.c (.v (.int .i64 0))), (some (122, true)), none⟩,
   ⟨(some 131), .beq false (.t 125) (.t 130), (some (122, true)), none⟩,
   ⟨(some 132), .pick (.t 122) (.t 131) (.c (.v (.bool false))), none, none⟩,
   ⟨(some 4), .mv (.t 132), none, none⟩])
  .ret))))
def c_caesuralaw15_DetNets (f_caesuralaw15_alive f_caesuraref13_Great f_caesuraref13_Right f_det_Whole f_det_Tails f_det_Heads f_det_Right f_det_Accepts f_caesuraref13_Accepts f_caesuraref14_Tails f_caesuraref14_Heads : FuncId) : AC :=
  (.seq (.reg none [
   ⟨(some 2), .box 4 (.t 0), none, none⟩,
   ⟨(some 4), .mv (.c (.v (.bool false))), none, none⟩])
  (.seq (.seq (.reg none [
   ⟨(some 12), .mv (.c .junk), none, (some ((.c (.clo f_caesuralaw15_alive [] [])), []))⟩,
   ⟨(some 13), .un .not (.t 12), none, none⟩])
  (.cond (.t 13) (.seq (.reg none [
    ⟨(some 4), .mv (.c (.v (.bool false))), none, none⟩])
   .ret) .skip))
  (.seq (.seq (.reg none [
   ⟨(some 14), .load (some 4) (.t 2), none, none⟩,
   ⟨(some 15), .mv (.c .junk), none, (some ((.c (.clo f_caesuraref13_Great [] [])), [(.t 14), (.c (.v (.int .i64 300)))]))⟩,
   ⟨(some 16), .mv (.t 15), none, none⟩,
   ⟨(some 17), .fieldA 0 (.t 2), (some (16, false)), none⟩,
   ⟨(some 18), .load none (.t 17), (some (16, false)), none⟩,
   ⟨(some 19), .bin .gtr (.t 18) (.c (.v (.int .i64 10))), (some (16, false)), none⟩,
   ⟨(some 20), .pick (.t 16) (.c (.v (.bool true))) (.t 19), none, none⟩,
   ⟨(some 21), .mv (.t 20), none, none⟩,
   ⟨(some 22), .fieldA 1 (.t 2), (some (21, false)), none⟩,
   ⟨(some 23), .load none (.t 22), (some (21, false)), none⟩,
   ⟨(some 24), .len (.t 23), (some (21, false)), none⟩,
   ⟨(some 25), .bin .gtr (.t 24) (.c (.v (.int .i64 12))), (some (21, false)), none⟩,
   ⟨(some 26), .pick (.t 21) (.c (.v (.bool true))) (.t 25), none, none⟩,
   ⟨(some 27), .mv (.t 26), none, none⟩,
   ⟨(some 28), .mv (.t 1), (some (27, false)), none⟩,
   ⟨(some 29), .len (.t 28), (some (27, false)), none⟩,
   ⟨(some 30), .bin .gtr (.t 29) (.c (.v (.int .i64 10))), (some (27, false)), none⟩,
   ⟨(some 31), .pick (.t 27) (.c (.v (.bool true))) (.t 30), none, none⟩,
   ⟨(some 32), .mv (.t 31), none, none⟩,
   ⟨(some 33), .load (some 4) (.t 2), (some (32, false)), none⟩,
   ⟨(some 34), .mv (.c .junk), (some (32, false)), (some ((.c (.clo f_caesuraref13_Right [] [])), [(.t 33)]))⟩,
   ⟨(some 35), .un .not (.t 34), (some (32, false)), none⟩,
   ⟨(some 36), .pick (.t 32) (.c (.v (.bool true))) (.t 35), none, none⟩])
  (.cond (.t 36) (.seq (.reg none [
    ⟨(some 4), .mv (.c (.v (.bool true))), none, none⟩])
   .ret) .skip))
  (.seq (.seq (.reg none [
   ⟨(some 5), .mv (.c (.v (.int .i64 0))), none, none⟩])
  (.block 0 (.loop (.seq (.seq (.reg none [
     ⟨(some 37), .mv (.t 5), none, none⟩,
     ⟨(some 38), .mv (.t 1), none, none⟩,
     ⟨(some 39), .len (.t 38), none, none⟩,
     ⟨(some 40), .bin .lss (.t 37) (.t 39), none, none⟩])
    (.cond (.t 40) .skip (.exit 0)))
    (.seq (.block 1 (.seq (.reg (some []) [
      ⟨(some 43), .mv (.t 1), none, none⟩,
      ⟨(some 44), .mv (.t 5), none, none⟩,
      ⟨(some 45), .idxA 1 (.t 43) (.t 44), none, none⟩,
      ⟨(some 46), .load none (.t 45), none, none⟩,
      ⟨(some 47), .bin .lss (.t 46) (.c (.v (.int .i64 0))), none, none⟩,
      ⟨(some 48), .mv (.t 47), none, none⟩,
      ⟨(some 49), .mv (.t 1), (some (48, false)), none⟩,
      ⟨(some 50), .mv (.t 5), (some (48, false)), none⟩,
      ⟨(some 51), .idxA 1 (.t 49) (.t 50), (some (48, false)), none⟩,
      ⟨(some 52), .load none (.t 51), (some (48, false)), none⟩,
      ⟨(some 53), .fieldA 0 (.t 2), (some (48, false)), none⟩,
      ⟨(some 54), .load none (.t 53), (some (48, false)), none⟩,
      ⟨(some 55), .bin .geq (.t 52) (.t 54), (some (48, false)), none⟩,
      ⟨(some 56), .pick (.t 48) (.c (.v (.bool true))) (.t 55), none, none⟩])
     (.cond (.t 56) (.seq (.reg none [
       ⟨(some 4), .mv (.c (.v (.bool true))), none, none⟩])
      .ret) .skip)))
    (.reg none [
     ⟨(some 41), .mv (.t 5), none, none⟩,
     ⟨(some 42), .bin .add (.t 41) (.c (.v (.int .i64 1))), none, none⟩,
     ⟨(some 5), .mv (.t 42), none, none⟩]))))))
  (.seq (.reg none [
   ⟨(some 58), .load (some 4) (.t 2), none, none⟩,
   ⟨(some 59), .mv (.c .junk), none, (some ((.c (.clo f_det_Whole [] [])), [(.t 58), (.c (.v (.int .i64 3000)))]))⟩,
   ⟨(some 57), .mv (.t 59), none, none⟩,
   ⟨(some 60), .ext 0 (.t 57), none, none⟩,
   ⟨(some 61), .ext 1 (.t 57), none, none⟩,
   ⟨(some 6), .alloc (.agg [(.v (.int .i64 0)), (.sl true []), (.sl true [])]) 3, none, none⟩,
   ⟨none, .store 3 (.t 6) (.t 60), none, none⟩,
   ⟨(some 7), .mv (.t 61), none, none⟩])
  (c_dn_c f_det_Tails f_det_Heads f_det_Right f_det_Accepts f_caesuraref13_Accepts f_caesuraref14_Tails f_caesuraref14_Heads))))))
def dnI (n : Net) (l : List Int) (i : Nat) (_ : Unit) : Prop := ∀ s ∈ l.take i, 0 ≤ s ∧ s < n.signs
def dnA (l : List Int) (i : Nat) (_ : Unit) : List (Nat × AV) := [(1, encIs l), (2, .ptr 0 0 0), (5, encI i)]
theorem DetNets_body {P : Program} {fl fg fr f1 f2 f3 fd fa fn ft fh : FuncId} (n : Net) (l : List Int) (a b c : Det) (x y z : Int) (hl : PureC P fl [] (encB true)) (gn : Bool) (hg : PureC P fg [encNet n, encI 300] (encB gn))
    (hr : gn = false → PureC P fr [encNet n] (encB (rightN n)))
    (h : gn = false → n.by_.length ≤ 12 → l.length ≤ 10 → rightN n = true → PureC P f1 [encNet n, encI 3000] (encDE (a, x)) ∧ PureC P f2 [encNet n, encI 3000] (encDE (b, y)) ∧ PureC P f3 [encNet n, encI 3000] (encDE (c, z)) ∧
      ((x = 0 ∧ y = 0 ∧ z = 0) ∨ x = 13 ∨ y = 13 ∨ z = 13) ∧ ((∀ s ∈ l, 0 ≤ s ∧ s < n.signs) → x = 0 → y = 0 → z = 0 →
        (∀ d, d = a ∨ d = b ∨ d = c → PureC P fd [encDet d] (encB true)) ∧ (∀ e, e = accN n l → PureC P fa [encDet a, encIs l] (encB e)) ∧ PureC P fn [encNet n, encIs l] (encB (accN n l)) ∧
        PureC P fa [encDet b, encIs l] (encB (decide (0 < (filtL (tlP n l) (l.length + 1)).length))) ∧ PureC P ft [encNet n, encIs l] (encIs (filtL (tlP n l) (l.length + 1))) ∧
        PureC P fa [encDet c, encIs l] (encB (decide (0 < (filtL (hdP n l) (l.length + 1)).length))) ∧ PureC P fh [encNet n, encIs l] (encIs (filtL (hdP n l) (l.length + 1))))) :
    AWb P 0 (c_caesuralaw15_DetNets fl fg fr f1 f2 f3 fd fa fn ft fh) (RetK [4] (FzK (encB true))) (argF [encNet n, encIs l]) S0 := by
  simp [AWb_seq, Z0o, Z0p, Z0l, Z0m, Z0t, Z0n, Z0r, Z0s, Z0q, Z28, Z27, Z2c, Z2d, Z3q, Z3r, Z3n, vIdx, Z5h, Z5g, Z5i, vApp, Z5e, Z4c, Z13, Z12, Z11, Z0z, Z0y, Z10, Z19, Z18, Z17, Z15, Z14, Z16, Z2n, Z2o, Z2l, Z2y, Z3c, Z3b, Z08, Z0a, Z07, Z01, Z03, Z00, Z05, Z06, Z04, Z26, Z25, Z4q, Z4s, Z4r, Z4p, Z1u, Z1v, Z1t, Z40, Z3x, Z3z, Z3y, Z41, Z1s, Z2j, Z3d, Z4f, Z1k, Z1l, Z1m, Z4d, Z4e, Z1i, Z2i, Z1j, Z3v, Z3s, Z3u, Z3t, Z3w, Z4l, Z4k, Z0v, Z0w, Z0x, Z0u, Z1h, Z4w, Z4v, Z4x, Z4u, Z4t, ex, Z4n, Z4m, ev_t, ev_c, Z2h, Z2g, Z4y, Z4z, Z2x, Z2w, Z2q, Z2u, Z2v, Z2r, Z2s, Z2t, putc, exBslice, lfill, exField, exIdxV, exIdxP, exBox, exAlloc, Z3o, Z3p, exStore, exFieldA, Z3h, Z3g, Z3m, Z3l, exPick, exUn, exBeq, exMM, exSeq, seqGo, exExt, binV, intOp, subc, Z5c, Z5b, Z59, Z5a, Z57, Z55, Z56, Z58, Z52, Z53, Z50, Z5d, S0, encI, encB, Z54, Z2p, Z2f, Z51, Z2m, Z2e, Z3j, Z3k, Z3i, Z4a, Z4b, Z49, Z47, Z48, idxT_Bs, c_caesuralaw15_DetNets]
  refine CallR.pure hl cl_nil (Z2z _) ?_
  simp [AWb_seq, Z0o, Z0p, Z0l, Z0m, Z0t, Z0n, Z0r, Z0s, Z0q, Z28, Z27, Z2c, Z2d, Z3q, Z3r, Z3n, vIdx, Z5h, Z5g, Z5i, vApp, Z5e, Z4c, Z13, Z12, Z11, Z0z, Z0y, Z10, Z19, Z18, Z17, Z15, Z14, Z16, Z2n, Z2o, Z2l, Z2y, Z3c, Z3b, Z08, Z0a, Z07, Z01, Z03, Z00, Z05, Z06, Z04, Z26, Z25, Z4q, Z4s, Z4r, Z4p, Z1u, Z1v, Z1t, Z40, Z3x, Z3z, Z3y, Z41, Z1s, Z2j, Z3d, Z4f, Z1k, Z1l, Z1m, Z4d, Z4e, Z1i, Z2i, Z1j, Z3v, Z3s, Z3u, Z3t, Z3w, Z4l, Z4k, Z0v, Z0w, Z0x, Z0u, Z1h, Z4w, Z4v, Z4x, Z4u, Z4t, ex, Z4n, Z4m, ev_t, ev_c, Z2h, Z2g, Z4y, Z4z, Z2x, Z2w, Z2q, Z2u, Z2v, Z2r, Z2s, Z2t, putc, exBslice, lfill, exField, exIdxV, exIdxP, exBox, exAlloc, Z3o, Z3p, exStore, exFieldA, Z3h, Z3g, Z3m, Z3l, exPick, exUn, exBeq, exMM, exSeq, seqGo, exExt, binV, intOp, subc, Z5c, Z5b, Z59, Z5a, Z57, Z55, Z56, Z58, Z52, Z53, Z50, Z5d, S0, encI, encB, Z54, Z2p, Z2f, Z51, Z2m, Z2e, Z3j, Z3k, Z3i, Z4a, Z4b, Z49, Z47, Z48, idxT_Bs]
  refine CallR.pure hg (cl_cons (closed_Net n) (cl_cons (Z32 _) cl_nil)) (Z2z _) ?_
  cases gn with
  | true =>
    simp [AWb_seq, Z0o, Z0p, Z0l, Z0m, Z0t, Z0n, Z0r, Z0s, Z0q, Z28, Z27, Z2c, Z2d, Z3q, Z3r, Z3n, vIdx, Z5h, Z5g, Z5i, vApp, Z5e, Z4c, Z13, Z12, Z11, Z0z, Z0y, Z10, Z19, Z18, Z17, Z15, Z14, Z16, Z2n, Z2o, Z2l, Z2y, Z3c, Z3b, Z08, Z0a, Z07, Z01, Z03, Z00, Z05, Z06, Z04, Z26, Z25, Z4q, Z4s, Z4r, Z4p, Z1u, Z1v, Z1t, Z40, Z3x, Z3z, Z3y, Z41, Z1s, Z2j, Z3d, Z4f, Z1k, Z1l, Z1m, Z4d, Z4e, Z1i, Z2i, Z1j, Z3v, Z3s, Z3u, Z3t, Z3w, Z4l, Z4k, Z0v, Z0w, Z0x, Z0u, Z1h, Z4w, Z4v, Z4x, Z4u, Z4t, ex, Z4n, Z4m, ev_t, ev_c, Z2h, Z2g, Z4y, Z4z, Z2x, Z2w, Z2q, Z2u, Z2v, Z2r, Z2s, Z2t, putc, exBslice, lfill, exField, exIdxV, exIdxP, exBox, exAlloc, Z3o, Z3p, exStore, exFieldA, Z3h, Z3g, Z3m, Z3l, exPick, exUn, exBeq, exMM, exSeq, seqGo, exExt, binV, intOp, subc, Z5c, Z5b, Z59, Z5a, Z57, Z55, Z56, Z58, Z52, Z53, Z50, Z5d, S0, encI, encB, Z54, Z2p, Z2f, Z51, Z2m, Z2e, Z3j, Z3k, Z3i, Z4a, Z4b, Z49, Z47, Z48, idxT_Bs]
    exact FzK_B true _
  | false =>
    by_cases h10 : 10 < n.signs
    · simp [AWb_seq, Z0o, Z0p, Z0l, Z0m, Z0t, Z0n, Z0r, Z0s, Z0q, Z28, Z27, Z2c, Z2d, Z3q, Z3r, Z3n, vIdx, Z5h, Z5g, Z5i, vApp, Z5e, Z4c, Z13, Z12, Z11, Z0z, Z0y, Z10, Z19, Z18, Z17, Z15, Z14, Z16, Z2n, Z2o, Z2l, Z2y, Z3c, Z3b, Z08, Z0a, Z07, Z01, Z03, Z00, Z05, Z06, Z04, Z26, Z25, Z4q, Z4s, Z4r, Z4p, Z1u, Z1v, Z1t, Z40, Z3x, Z3z, Z3y, Z41, Z1s, Z2j, Z3d, Z4f, Z1k, Z1l, Z1m, Z4d, Z4e, Z1i, Z2i, Z1j, Z3v, Z3s, Z3u, Z3t, Z3w, Z4l, Z4k, Z0v, Z0w, Z0x, Z0u, Z1h, Z4w, Z4v, Z4x, Z4u, Z4t, ex, Z4n, Z4m, ev_t, ev_c, Z2h, Z2g, Z4y, Z4z, Z2x, Z2w, Z2q, Z2u, Z2v, Z2r, Z2s, Z2t, putc, exBslice, lfill, exField, exIdxV, exIdxP, exBox, exAlloc, Z3o, Z3p, exStore, exFieldA, Z3h, Z3g, Z3m, Z3l, exPick, exUn, exBeq, exMM, exSeq, seqGo, exExt, binV, intOp, subc, Z5c, Z5b, Z59, Z5a, Z57, Z55, Z56, Z58, Z52, Z53, Z50, Z5d, S0, encI, encB, Z54, Z2p, Z2f, Z51, Z2m, Z2e, Z3j, Z3k, Z3i, Z4a, Z4b, Z49, Z47, Z48, idxT_Bs, h10]
      exact FzK_B true _
    by_cases h12 : 12 < n.by_.length
    · have h12' : (12 : Int) < n.by_.length := by omega
      simp [AWb_seq, Z0o, Z0p, Z0l, Z0m, Z0t, Z0n, Z0r, Z0s, Z0q, Z28, Z27, Z2c, Z2d, Z3q, Z3r, Z3n, vIdx, Z5h, Z5g, Z5i, vApp, Z5e, Z4c, Z13, Z12, Z11, Z0z, Z0y, Z10, Z19, Z18, Z17, Z15, Z14, Z16, Z2n, Z2o, Z2l, Z2y, Z3c, Z3b, Z08, Z0a, Z07, Z01, Z03, Z00, Z05, Z06, Z04, Z26, Z25, Z4q, Z4s, Z4r, Z4p, Z1u, Z1v, Z1t, Z40, Z3x, Z3z, Z3y, Z41, Z1s, Z2j, Z3d, Z4f, Z1k, Z1l, Z1m, Z4d, Z4e, Z1i, Z2i, Z1j, Z3v, Z3s, Z3u, Z3t, Z3w, Z4l, Z4k, Z0v, Z0w, Z0x, Z0u, Z1h, Z4w, Z4v, Z4x, Z4u, Z4t, ex, Z4n, Z4m, ev_t, ev_c, Z2h, Z2g, Z4y, Z4z, Z2x, Z2w, Z2q, Z2u, Z2v, Z2r, Z2s, Z2t, putc, exBslice, lfill, exField, exIdxV, exIdxP, exBox, exAlloc, Z3o, Z3p, exStore, exFieldA, Z3h, Z3g, Z3m, Z3l, exPick, exUn, exBeq, exMM, exSeq, seqGo, exExt, binV, intOp, subc, Z5c, Z5b, Z59, Z5a, Z57, Z55, Z56, Z58, Z52, Z53, Z50, Z5d, S0, encI, encB, Z54, Z2p, Z2f, Z51, Z2m, Z2e, Z3j, Z3k, Z3i, Z4a, Z4b, Z49, Z47, Z48, idxT_Bs, h10, h12, h12']
      exact FzK_B true _
    have h12' : ¬ (12 : Int) < n.by_.length := by omega
    by_cases hl10 : 10 < l.length
    · have hl10' : (10 : Int) < l.length := by omega
      simp [AWb_seq, Z0o, Z0p, Z0l, Z0m, Z0t, Z0n, Z0r, Z0s, Z0q, Z28, Z27, Z2c, Z2d, Z3q, Z3r, Z3n, vIdx, Z5h, Z5g, Z5i, vApp, Z5e, Z4c, Z13, Z12, Z11, Z0z, Z0y, Z10, Z19, Z18, Z17, Z15, Z14, Z16, Z2n, Z2o, Z2l, Z2y, Z3c, Z3b, Z08, Z0a, Z07, Z01, Z03, Z00, Z05, Z06, Z04, Z26, Z25, Z4q, Z4s, Z4r, Z4p, Z1u, Z1v, Z1t, Z40, Z3x, Z3z, Z3y, Z41, Z1s, Z2j, Z3d, Z4f, Z1k, Z1l, Z1m, Z4d, Z4e, Z1i, Z2i, Z1j, Z3v, Z3s, Z3u, Z3t, Z3w, Z4l, Z4k, Z0v, Z0w, Z0x, Z0u, Z1h, Z4w, Z4v, Z4x, Z4u, Z4t, ex, Z4n, Z4m, ev_t, ev_c, Z2h, Z2g, Z4y, Z4z, Z2x, Z2w, Z2q, Z2u, Z2v, Z2r, Z2s, Z2t, putc, exBslice, lfill, exField, exIdxV, exIdxP, exBox, exAlloc, Z3o, Z3p, exStore, exFieldA, Z3h, Z3g, Z3m, Z3l, exPick, exUn, exBeq, exMM, exSeq, seqGo, exExt, binV, intOp, subc, Z5c, Z5b, Z59, Z5a, Z57, Z55, Z56, Z58, Z52, Z53, Z50, Z5d, S0, encI, encB, Z54, Z2p, Z2f, Z51, Z2m, Z2e, Z3j, Z3k, Z3i, Z4a, Z4b, Z49, Z47, Z48, idxT_Bs, h10, h12, h12', hl10, hl10']
      exact FzK_B true _
    have hl10' : ¬ (10 : Int) < l.length := by omega
    simp [AWb_seq, Z0o, Z0p, Z0l, Z0m, Z0t, Z0n, Z0r, Z0s, Z0q, Z28, Z27, Z2c, Z2d, Z3q, Z3r, Z3n, vIdx, Z5h, Z5g, Z5i, vApp, Z5e, Z4c, Z13, Z12, Z11, Z0z, Z0y, Z10, Z19, Z18, Z17, Z15, Z14, Z16, Z2n, Z2o, Z2l, Z2y, Z3c, Z3b, Z08, Z0a, Z07, Z01, Z03, Z00, Z05, Z06, Z04, Z26, Z25, Z4q, Z4s, Z4r, Z4p, Z1u, Z1v, Z1t, Z40, Z3x, Z3z, Z3y, Z41, Z1s, Z2j, Z3d, Z4f, Z1k, Z1l, Z1m, Z4d, Z4e, Z1i, Z2i, Z1j, Z3v, Z3s, Z3u, Z3t, Z3w, Z4l, Z4k, Z0v, Z0w, Z0x, Z0u, Z1h, Z4w, Z4v, Z4x, Z4u, Z4t, ex, Z4n, Z4m, ev_t, ev_c, Z2h, Z2g, Z4y, Z4z, Z2x, Z2w, Z2q, Z2u, Z2v, Z2r, Z2s, Z2t, putc, exBslice, lfill, exField, exIdxV, exIdxP, exBox, exAlloc, Z3o, Z3p, exStore, exFieldA, Z3h, Z3g, Z3m, Z3l, exPick, exUn, exBeq, exMM, exSeq, seqGo, exExt, binV, intOp, subc, Z5c, Z5b, Z59, Z5a, Z57, Z55, Z56, Z58, Z52, Z53, Z50, Z5d, S0, encI, encB, Z54, Z2p, Z2f, Z51, Z2m, Z2e, Z3j, Z3k, Z3i, Z4a, Z4b, Z49, Z47, Z48, idxT_Bs, h10, h12, h12', hl10, hl10']
    refine CallR.pure (hr rfl) (cl_cons (closed_Net n) cl_nil) (Z2z _) ?_
    cases hR : rightN n with
    | false =>
      simp [AWb_seq, Z0o, Z0p, Z0l, Z0m, Z0t, Z0n, Z0r, Z0s, Z0q, Z28, Z27, Z2c, Z2d, Z3q, Z3r, Z3n, vIdx, Z5h, Z5g, Z5i, vApp, Z5e, Z4c, Z13, Z12, Z11, Z0z, Z0y, Z10, Z19, Z18, Z17, Z15, Z14, Z16, Z2n, Z2o, Z2l, Z2y, Z3c, Z3b, Z08, Z0a, Z07, Z01, Z03, Z00, Z05, Z06, Z04, Z26, Z25, Z4q, Z4s, Z4r, Z4p, Z1u, Z1v, Z1t, Z40, Z3x, Z3z, Z3y, Z41, Z1s, Z2j, Z3d, Z4f, Z1k, Z1l, Z1m, Z4d, Z4e, Z1i, Z2i, Z1j, Z3v, Z3s, Z3u, Z3t, Z3w, Z4l, Z4k, Z0v, Z0w, Z0x, Z0u, Z1h, Z4w, Z4v, Z4x, Z4u, Z4t, ex, Z4n, Z4m, ev_t, ev_c, Z2h, Z2g, Z4y, Z4z, Z2x, Z2w, Z2q, Z2u, Z2v, Z2r, Z2s, Z2t, putc, exBslice, lfill, exField, exIdxV, exIdxP, exBox, exAlloc, Z3o, Z3p, exStore, exFieldA, Z3h, Z3g, Z3m, Z3l, exPick, exUn, exBeq, exMM, exSeq, seqGo, exExt, binV, intOp, subc, Z5c, Z5b, Z59, Z5a, Z57, Z55, Z56, Z58, Z52, Z53, Z50, Z5d, S0, encI, encB, Z54, Z2p, Z2f, Z51, Z2m, Z2e, Z3j, Z3k, Z3i, Z4a, Z4b, Z49, Z47, Z48, idxT_Bs]
      exact FzK_B true _
    | true =>
      obtain ⟨k1, k2, k3, hor, kk⟩ := h rfl (by omega) (by omega) hR
      have c2 := cl_cons (closed_Net n) (cl_cons (Z32 3000) cl_nil)
      simp [AWb_seq, Z0o, Z0p, Z0l, Z0m, Z0t, Z0n, Z0r, Z0s, Z0q, Z28, Z27, Z2c, Z2d, Z3q, Z3r, Z3n, vIdx, Z5h, Z5g, Z5i, vApp, Z5e, Z4c, Z13, Z12, Z11, Z0z, Z0y, Z10, Z19, Z18, Z17, Z15, Z14, Z16, Z2n, Z2o, Z2l, Z2y, Z3c, Z3b, Z08, Z0a, Z07, Z01, Z03, Z00, Z05, Z06, Z04, Z26, Z25, Z4q, Z4s, Z4r, Z4p, Z1u, Z1v, Z1t, Z40, Z3x, Z3z, Z3y, Z41, Z1s, Z2j, Z3d, Z4f, Z1k, Z1l, Z1m, Z4d, Z4e, Z1i, Z2i, Z1j, Z3v, Z3s, Z3u, Z3t, Z3w, Z4l, Z4k, Z0v, Z0w, Z0x, Z0u, Z1h, Z4w, Z4v, Z4x, Z4u, Z4t, ex, Z4n, Z4m, ev_t, ev_c, Z2h, Z2g, Z4y, Z4z, Z2x, Z2w, Z2q, Z2u, Z2v, Z2r, Z2s, Z2t, putc, exBslice, lfill, exField, exIdxV, exIdxP, exBox, exAlloc, Z3o, Z3p, exStore, exFieldA, Z3h, Z3g, Z3m, Z3l, exPick, exUn, exBeq, exMM, exSeq, seqGo, exExt, binV, intOp, subc, Z5c, Z5b, Z59, Z5a, Z57, Z55, Z56, Z58, Z52, Z53, Z50, Z5d, S0, encI, encB, Z54, Z2p, Z2f, Z51, Z2m, Z2e, Z3j, Z3k, Z3i, Z4a, Z4b, Z49, Z47, Z48, idxT_Bs]
      refine AWb_for l.length (dnI n l) (dnA l) 3 (nG n) () (by simp [dnI]) ?_ ?_
      · refine Abs.of [(0, 0)] [] (by omega) ⟨by simp, by simp⟩ ?_ ?_
        · simp [RenL_snoc, RenL.cl, RenV.cl, Z32, Z2z, Z33, Z34, Z30, Z36, Z35, Z31, Z37, Z38, Z1f, Z1e, Z1d, Z1b, Z1a, Z1c, Z1g, Z5m, Z5f, Z5j, Z4h, Z5l, Z5k, Z4i, Z1w, Z1x, Z24, Z22, Z23, Z21, Z20, Z1z, Z1y, Z4o, Z4n, Z4m, Z4y, Z4z, Z2c, Z2d, Z3q, Z3r, Z2h, Z2g, vV_t, vV_f, vB_t, vB_f, encI, encB, nG, closed_Net]
        · simp [RenL_snoc, RenL.cl, RenV.cl, Z32, Z2z, Z33, Z34, Z30, Z36, Z35, Z31, Z37, Z38, Z1f, Z1e, Z1d, Z1b, Z1a, Z1c, Z1g, Z5m, Z5f, Z5j, Z4h, Z5l, Z5k, Z4i, Z1w, Z1x, Z24, Z22, Z23, Z21, Z20, Z1z, Z1y, Z4o, Z4n, Z4m, Z4y, Z4z, Z2c, Z2d, Z3q, Z3r, Z2h, Z2g, vV_t, vV_f, vB_t, vB_f, encI, encB, dnA]
      · rintro i _ hi hI
        by_cases hlt : i < l.length
        · have hltI : (i : Int) < l.length := by omega
          have hgd := getD_I hlt
          by_cases h0 : l[i] < 0
          · simp [AWb_seq, Z0o, Z0p, Z0l, Z0m, Z0t, Z0n, Z0r, Z0s, Z0q, Z28, Z27, Z2c, Z2d, Z3q, Z3r, Z3n, vIdx, Z5h, Z5g, Z5i, vApp, Z5e, Z4c, Z13, Z12, Z11, Z0z, Z0y, Z10, Z19, Z18, Z17, Z15, Z14, Z16, Z2n, Z2o, Z2l, Z2y, Z3c, Z3b, Z08, Z0a, Z07, Z01, Z03, Z00, Z05, Z06, Z04, Z26, Z25, Z4q, Z4s, Z4r, Z4p, Z1u, Z1v, Z1t, Z40, Z3x, Z3z, Z3y, Z41, Z1s, Z2j, Z3d, Z4f, Z1k, Z1l, Z1m, Z4d, Z4e, Z1i, Z2i, Z1j, Z3v, Z3s, Z3u, Z3t, Z3w, Z4l, Z4k, Z0v, Z0w, Z0x, Z0u, Z1h, Z4w, Z4v, Z4x, Z4u, Z4t, ex, Z4n, Z4m, ev_t, ev_c, Z2h, Z2g, Z4y, Z4z, Z2x, Z2w, Z2q, Z2u, Z2v, Z2r, Z2s, Z2t, putc, exBslice, lfill, exField, exIdxV, exIdxP, exBox, exAlloc, Z3o, Z3p, exStore, exFieldA, Z3h, Z3g, Z3m, Z3l, exPick, exUn, exBeq, exMM, exSeq, seqGo, exExt, binV, intOp, subc, Z5c, Z5b, Z59, Z5a, Z57, Z55, Z56, Z58, Z52, Z53, Z50, Z5d, S0, encI, encB, Z54, Z2p, Z2f, Z51, Z2m, Z2e, Z3j, Z3k, Z3i, Z4a, Z4b, Z49, Z47, Z48, idxT_Bs, dnA, nG, hlt, h0, hgd]
            exact FzK_B true _
          by_cases hs : n.signs ≤ l[i]
          · simp [AWb_seq, Z0o, Z0p, Z0l, Z0m, Z0t, Z0n, Z0r, Z0s, Z0q, Z28, Z27, Z2c, Z2d, Z3q, Z3r, Z3n, vIdx, Z5h, Z5g, Z5i, vApp, Z5e, Z4c, Z13, Z12, Z11, Z0z, Z0y, Z10, Z19, Z18, Z17, Z15, Z14, Z16, Z2n, Z2o, Z2l, Z2y, Z3c, Z3b, Z08, Z0a, Z07, Z01, Z03, Z00, Z05, Z06, Z04, Z26, Z25, Z4q, Z4s, Z4r, Z4p, Z1u, Z1v, Z1t, Z40, Z3x, Z3z, Z3y, Z41, Z1s, Z2j, Z3d, Z4f, Z1k, Z1l, Z1m, Z4d, Z4e, Z1i, Z2i, Z1j, Z3v, Z3s, Z3u, Z3t, Z3w, Z4l, Z4k, Z0v, Z0w, Z0x, Z0u, Z1h, Z4w, Z4v, Z4x, Z4u, Z4t, ex, Z4n, Z4m, ev_t, ev_c, Z2h, Z2g, Z4y, Z4z, Z2x, Z2w, Z2q, Z2u, Z2v, Z2r, Z2s, Z2t, putc, exBslice, lfill, exField, exIdxV, exIdxP, exBox, exAlloc, Z3o, Z3p, exStore, exFieldA, Z3h, Z3g, Z3m, Z3l, exPick, exUn, exBeq, exMM, exSeq, seqGo, exExt, binV, intOp, subc, Z5c, Z5b, Z59, Z5a, Z57, Z55, Z56, Z58, Z52, Z53, Z50, Z5d, S0, encI, encB, Z54, Z2p, Z2f, Z51, Z2m, Z2e, Z3j, Z3k, Z3i, Z4a, Z4b, Z49, Z47, Z48, idxT_Bs, dnA, nG, hlt, h0, hs, hgd]
            exact FzK_B true _
          simp [AWb_seq, Z0o, Z0p, Z0l, Z0m, Z0t, Z0n, Z0r, Z0s, Z0q, Z28, Z27, Z2c, Z2d, Z3q, Z3r, Z3n, vIdx, Z5h, Z5g, Z5i, vApp, Z5e, Z4c, Z13, Z12, Z11, Z0z, Z0y, Z10, Z19, Z18, Z17, Z15, Z14, Z16, Z2n, Z2o, Z2l, Z2y, Z3c, Z3b, Z08, Z0a, Z07, Z01, Z03, Z00, Z05, Z06, Z04, Z26, Z25, Z4q, Z4s, Z4r, Z4p, Z1u, Z1v, Z1t, Z40, Z3x, Z3z, Z3y, Z41, Z1s, Z2j, Z3d, Z4f, Z1k, Z1l, Z1m, Z4d, Z4e, Z1i, Z2i, Z1j, Z3v, Z3s, Z3u, Z3t, Z3w, Z4l, Z4k, Z0v, Z0w, Z0x, Z0u, Z1h, Z4w, Z4v, Z4x, Z4u, Z4t, ex, Z4n, Z4m, ev_t, ev_c, Z2h, Z2g, Z4y, Z4z, Z2x, Z2w, Z2q, Z2u, Z2v, Z2r, Z2s, Z2t, putc, exBslice, lfill, exField, exIdxV, exIdxP, exBox, exAlloc, Z3o, Z3p, exStore, exFieldA, Z3h, Z3g, Z3m, Z3l, exPick, exUn, exBeq, exMM, exSeq, seqGo, exExt, binV, intOp, subc, Z5c, Z5b, Z59, Z5a, Z57, Z55, Z56, Z58, Z52, Z53, Z50, Z5d, S0, encI, encB, Z54, Z2p, Z2f, Z51, Z2m, Z2e, Z3j, Z3k, Z3i, Z4a, Z4b, Z49, Z47, Z48, idxT_Bs, dnA, nG, hlt, h0, hs, hgd]
          rw [wrap_in _ (by omega)]
          refine ⟨hlt, (), ?_, Abs.of [(0, 0)] [] (by omega) ⟨by simp, by simp⟩ ?_ ?_⟩
          · unfold dnI at hI ⊢
            intro s hsm
            rw [List.take_add_one, List.getElem?_eq_getElem hlt] at hsm
            simp only [Option.toList_some, List.mem_append, List.mem_singleton] at hsm
            rcases hsm with hsm | rfl
            · exact hI s hsm
            · omega
          · simp [RenL_snoc, RenL.cl, RenV.cl, Z32, Z2z, Z33, Z34, Z30, Z36, Z35, Z31, Z37, Z38, Z1f, Z1e, Z1d, Z1b, Z1a, Z1c, Z1g, Z5m, Z5f, Z5j, Z4h, Z5l, Z5k, Z4i, Z1w, Z1x, Z24, Z22, Z23, Z21, Z20, Z1z, Z1y, Z4o, Z4n, Z4m, Z4y, Z4z, Z2c, Z2d, Z3q, Z3r, Z2h, Z2g, vV_t, vV_f, vB_t, vB_f, encI, encB, nG, closed_Net]
          · simp [RenL_snoc, RenL.cl, RenV.cl, Z32, Z2z, Z33, Z34, Z30, Z36, Z35, Z31, Z37, Z38, Z1f, Z1e, Z1d, Z1b, Z1a, Z1c, Z1g, Z5m, Z5f, Z5j, Z4h, Z5l, Z5k, Z4i, Z1w, Z1x, Z24, Z22, Z23, Z21, Z20, Z1z, Z1y, Z4o, Z4n, Z4m, Z4y, Z4z, Z2c, Z2d, Z3q, Z3r, Z2h, Z2g, vV_t, vV_f, vB_t, vB_f, encI, encB, dnA]
        · have hall : ∀ s ∈ l, 0 ≤ s ∧ s < n.signs := by
            have : l.take i = l := List.take_of_length_le (by omega)
            unfold dnI at hI; rwa [this] at hI
          have hltI : ¬ (i : Int) < l.length := by omega
          simp [AWb_seq, Z0o, Z0p, Z0l, Z0m, Z0t, Z0n, Z0r, Z0s, Z0q, Z28, Z27, Z2c, Z2d, Z3q, Z3r, Z3n, vIdx, Z5h, Z5g, Z5i, vApp, Z5e, Z4c, Z13, Z12, Z11, Z0z, Z0y, Z10, Z19, Z18, Z17, Z15, Z14, Z16, Z2n, Z2o, Z2l, Z2y, Z3c, Z3b, Z08, Z0a, Z07, Z01, Z03, Z00, Z05, Z06, Z04, Z26, Z25, Z4q, Z4s, Z4r, Z4p, Z1u, Z1v, Z1t, Z40, Z3x, Z3z, Z3y, Z41, Z1s, Z2j, Z3d, Z4f, Z1k, Z1l, Z1m, Z4d, Z4e, Z1i, Z2i, Z1j, Z3v, Z3s, Z3u, Z3t, Z3w, Z4l, Z4k, Z0v, Z0w, Z0x, Z0u, Z1h, Z4w, Z4v, Z4x, Z4u, Z4t, ex, Z4n, Z4m, ev_t, ev_c, Z2h, Z2g, Z4y, Z4z, Z2x, Z2w, Z2q, Z2u, Z2v, Z2r, Z2s, Z2t, putc, exBslice, lfill, exField, exIdxV, exIdxP, exBox, exAlloc, Z3o, Z3p, exStore, exFieldA, Z3h, Z3g, Z3m, Z3l, exPick, exUn, exBeq, exMM, exSeq, seqGo, exExt, binV, intOp, subc, Z5c, Z5b, Z59, Z5a, Z57, Z55, Z56, Z58, Z52, Z53, Z50, Z5d, S0, encI, encB, Z54, Z2p, Z2f, Z51, Z2m, Z2e, Z3j, Z3k, Z3i, Z4a, Z4b, Z49, Z47, Z48, idxT_Bs, dnA, nG, hlt]
          refine CallR.pure k1 c2 (closed_DE _) ?_
          simp [AWb_seq, Z0o, Z0p, Z0l, Z0m, Z0t, Z0n, Z0r, Z0s, Z0q, Z28, Z27, Z2c, Z2d, Z3q, Z3r, Z3n, vIdx, Z5h, Z5g, Z5i, vApp, Z5e, Z4c, Z13, Z12, Z11, Z0z, Z0y, Z10, Z19, Z18, Z17, Z15, Z14, Z16, Z2n, Z2o, Z2l, Z2y, Z3c, Z3b, Z08, Z0a, Z07, Z01, Z03, Z00, Z05, Z06, Z04, Z26, Z25, Z4q, Z4s, Z4r, Z4p, Z1u, Z1v, Z1t, Z40, Z3x, Z3z, Z3y, Z41, Z1s, Z2j, Z3d, Z4f, Z1k, Z1l, Z1m, Z4d, Z4e, Z1i, Z2i, Z1j, Z3v, Z3s, Z3u, Z3t, Z3w, Z4l, Z4k, Z0v, Z0w, Z0x, Z0u, Z1h, Z4w, Z4v, Z4x, Z4u, Z4t, ex, Z4n, Z4m, ev_t, ev_c, Z2h, Z2g, Z4y, Z4z, Z2x, Z2w, Z2q, Z2u, Z2v, Z2r, Z2s, Z2t, putc, exBslice, lfill, exField, exIdxV, exIdxP, exBox, exAlloc, Z3o, Z3p, exStore, exFieldA, Z3h, Z3g, Z3m, Z3l, exPick, exUn, exBeq, exMM, exSeq, seqGo, exExt, binV, intOp, subc, Z5c, Z5b, Z59, Z5a, Z57, Z55, Z56, Z58, Z52, Z53, Z50, Z5d, S0, encI, encB, Z54, Z2p, Z2f, Z51, Z2m, Z2e, Z3j, Z3k, Z3i, Z4a, Z4b, Z49, Z47, Z48, idxT_Bs, encDE, c_dn_c]
          refine CallR.pure k2 c2 (closed_DE _) ?_
          simp [AWb_seq, Z0o, Z0p, Z0l, Z0m, Z0t, Z0n, Z0r, Z0s, Z0q, Z28, Z27, Z2c, Z2d, Z3q, Z3r, Z3n, vIdx, Z5h, Z5g, Z5i, vApp, Z5e, Z4c, Z13, Z12, Z11, Z0z, Z0y, Z10, Z19, Z18, Z17, Z15, Z14, Z16, Z2n, Z2o, Z2l, Z2y, Z3c, Z3b, Z08, Z0a, Z07, Z01, Z03, Z00, Z05, Z06, Z04, Z26, Z25, Z4q, Z4s, Z4r, Z4p, Z1u, Z1v, Z1t, Z40, Z3x, Z3z, Z3y, Z41, Z1s, Z2j, Z3d, Z4f, Z1k, Z1l, Z1m, Z4d, Z4e, Z1i, Z2i, Z1j, Z3v, Z3s, Z3u, Z3t, Z3w, Z4l, Z4k, Z0v, Z0w, Z0x, Z0u, Z1h, Z4w, Z4v, Z4x, Z4u, Z4t, ex, Z4n, Z4m, ev_t, ev_c, Z2h, Z2g, Z4y, Z4z, Z2x, Z2w, Z2q, Z2u, Z2v, Z2r, Z2s, Z2t, putc, exBslice, lfill, exField, exIdxV, exIdxP, exBox, exAlloc, Z3o, Z3p, exStore, exFieldA, Z3h, Z3g, Z3m, Z3l, exPick, exUn, exBeq, exMM, exSeq, seqGo, exExt, binV, intOp, subc, Z5c, Z5b, Z59, Z5a, Z57, Z55, Z56, Z58, Z52, Z53, Z50, Z5d, S0, encI, encB, Z54, Z2p, Z2f, Z51, Z2m, Z2e, Z3j, Z3k, Z3i, Z4a, Z4b, Z49, Z47, Z48, idxT_Bs, encDE]
          refine CallR.pure k3 c2 (closed_DE _) ?_
          rcases hor with ⟨rfl, rfl, rfl⟩ | hor
          · obtain ⟨kd, ka, kn, kb, kt, kc, kh⟩ := kk hall rfl rfl rfl
            have K : ∀ {f : FuncId} {args : List AV} {r : AV}, PureC P f args r → (∀ x ∈ args, Closed x) → Closed r → ∀ n g, CallD P f args ⟨n, g⟩ [] r := fun h hc hr n g => CallD.cd h hc hr
            have q1 := K (kd a (.inl rfl)) (cl_cons (closed_Det _) cl_nil) (Z2z _)
            have q2 := K (kd b (.inr (.inl rfl))) (cl_cons (closed_Det _) cl_nil) (Z2z _)
            have q3 := K (kd c (.inr (.inr rfl))) (cl_cons (closed_Det _) cl_nil) (Z2z _)
            have q4 := K (ka _ rfl) (cl_cons (closed_Det _) (cl_cons (Z33 _) cl_nil)) (Z2z _)
            have q5 := K kn (cl_cons (closed_Net _) (cl_cons (Z33 _) cl_nil)) (Z2z _)
            have q6 := K kb (cl_cons (closed_Det _) (cl_cons (Z33 _) cl_nil)) (Z2z _)
            have q7 := K kt (cl_cons (closed_Net _) (cl_cons (Z33 _) cl_nil)) (Z33 _)
            have q8 := K kc (cl_cons (closed_Det _) (cl_cons (Z33 _) cl_nil)) (Z2z _)
            have q9 := K kh (cl_cons (closed_Net _) (cl_cons (Z33 _) cl_nil)) (Z33 _)
            simp only [encB] at q1 q2 q3 q4 q5 q6 q8
            simp [AWb_seq, Z0o, Z0p, Z0l, Z0m, Z0t, Z0n, Z0r, Z0s, Z0q, Z28, Z27, Z2c, Z2d, Z3q, Z3r, Z3n, vIdx, Z5h, Z5g, Z5i, vApp, Z5e, Z4c, Z13, Z12, Z11, Z0z, Z0y, Z10, Z19, Z18, Z17, Z15, Z14, Z16, Z2n, Z2o, Z2l, Z2y, Z3c, Z3b, Z08, Z0a, Z07, Z01, Z03, Z00, Z05, Z06, Z04, Z26, Z25, Z4q, Z4s, Z4r, Z4p, Z1u, Z1v, Z1t, Z40, Z3x, Z3z, Z3y, Z41, Z1s, Z2j, Z3d, Z4f, Z1k, Z1l, Z1m, Z4d, Z4e, Z1i, Z2i, Z1j, Z3v, Z3s, Z3u, Z3t, Z3w, Z4l, Z4k, Z0v, Z0w, Z0x, Z0u, Z1h, Z4w, Z4v, Z4x, Z4u, Z4t, ex, Z4n, Z4m, ev_t, ev_c, Z2h, Z2g, Z4y, Z4z, Z2x, Z2w, Z2q, Z2u, Z2v, Z2r, Z2s, Z2t, putc, exBslice, lfill, exField, exIdxV, exIdxP, exBox, exAlloc, Z3o, Z3p, exStore, exFieldA, Z3h, Z3g, Z3m, Z3l, exPick, exUn, exBeq, exMM, exSeq, seqGo, exExt, binV, intOp, subc, Z5c, Z5b, Z59, Z5a, Z57, Z55, Z56, Z58, Z52, Z53, Z50, Z5d, S0, encI, encB, Z54, Z2p, Z2f, Z51, Z2m, Z2e, Z3j, Z3k, Z3i, Z4a, Z4b, Z49, Z47, Z48, idxT_Bs, encDE]
            refine ⟨_, ⟨_, q1 _ _⟩, ?_⟩
            try simp [AWb_seq, Z0o, Z0p, Z0l, Z0m, Z0t, Z0n, Z0r, Z0s, Z0q, Z28, Z27, Z2c, Z2d, Z3q, Z3r, Z3n, vIdx, Z5h, Z5g, Z5i, vApp, Z5e, Z4c, Z13, Z12, Z11, Z0z, Z0y, Z10, Z19, Z18, Z17, Z15, Z14, Z16, Z2n, Z2o, Z2l, Z2y, Z3c, Z3b, Z08, Z0a, Z07, Z01, Z03, Z00, Z05, Z06, Z04, Z26, Z25, Z4q, Z4s, Z4r, Z4p, Z1u, Z1v, Z1t, Z40, Z3x, Z3z, Z3y, Z41, Z1s, Z2j, Z3d, Z4f, Z1k, Z1l, Z1m, Z4d, Z4e, Z1i, Z2i, Z1j, Z3v, Z3s, Z3u, Z3t, Z3w, Z4l, Z4k, Z0v, Z0w, Z0x, Z0u, Z1h, Z4w, Z4v, Z4x, Z4u, Z4t, ex, Z4n, Z4m, ev_t, ev_c, Z2h, Z2g, Z4y, Z4z, Z2x, Z2w, Z2q, Z2u, Z2v, Z2r, Z2s, Z2t, putc, exBslice, lfill, exField, exIdxV, exIdxP, exBox, exAlloc, Z3o, Z3p, exStore, exFieldA, Z3h, Z3g, Z3m, Z3l, exPick, exUn, exBeq, exMM, exSeq, seqGo, exExt, binV, intOp, subc, Z5c, Z5b, Z59, Z5a, Z57, Z55, Z56, Z58, Z52, Z53, Z50, Z5d, S0, encI, encB, Z54, Z2p, Z2f, Z51, Z2m, Z2e, Z3j, Z3k, Z3i, Z4a, Z4b, Z49, Z47, Z48, idxT_Bs]
            refine ⟨_, ⟨_, q2 _ _⟩, ?_⟩
            try simp [AWb_seq, Z0o, Z0p, Z0l, Z0m, Z0t, Z0n, Z0r, Z0s, Z0q, Z28, Z27, Z2c, Z2d, Z3q, Z3r, Z3n, vIdx, Z5h, Z5g, Z5i, vApp, Z5e, Z4c, Z13, Z12, Z11, Z0z, Z0y, Z10, Z19, Z18, Z17, Z15, Z14, Z16, Z2n, Z2o, Z2l, Z2y, Z3c, Z3b, Z08, Z0a, Z07, Z01, Z03, Z00, Z05, Z06, Z04, Z26, Z25, Z4q, Z4s, Z4r, Z4p, Z1u, Z1v, Z1t, Z40, Z3x, Z3z, Z3y, Z41, Z1s, Z2j, Z3d, Z4f, Z1k, Z1l, Z1m, Z4d, Z4e, Z1i, Z2i, Z1j, Z3v, Z3s, Z3u, Z3t, Z3w, Z4l, Z4k, Z0v, Z0w, Z0x, Z0u, Z1h, Z4w, Z4v, Z4x, Z4u, Z4t, ex, Z4n, Z4m, ev_t, ev_c, Z2h, Z2g, Z4y, Z4z, Z2x, Z2w, Z2q, Z2u, Z2v, Z2r, Z2s, Z2t, putc, exBslice, lfill, exField, exIdxV, exIdxP, exBox, exAlloc, Z3o, Z3p, exStore, exFieldA, Z3h, Z3g, Z3m, Z3l, exPick, exUn, exBeq, exMM, exSeq, seqGo, exExt, binV, intOp, subc, Z5c, Z5b, Z59, Z5a, Z57, Z55, Z56, Z58, Z52, Z53, Z50, Z5d, S0, encI, encB, Z54, Z2p, Z2f, Z51, Z2m, Z2e, Z3j, Z3k, Z3i, Z4a, Z4b, Z49, Z47, Z48, idxT_Bs]
            refine ⟨_, ⟨_, q3 _ _⟩, ?_⟩
            try simp [AWb_seq, Z0o, Z0p, Z0l, Z0m, Z0t, Z0n, Z0r, Z0s, Z0q, Z28, Z27, Z2c, Z2d, Z3q, Z3r, Z3n, vIdx, Z5h, Z5g, Z5i, vApp, Z5e, Z4c, Z13, Z12, Z11, Z0z, Z0y, Z10, Z19, Z18, Z17, Z15, Z14, Z16, Z2n, Z2o, Z2l, Z2y, Z3c, Z3b, Z08, Z0a, Z07, Z01, Z03, Z00, Z05, Z06, Z04, Z26, Z25, Z4q, Z4s, Z4r, Z4p, Z1u, Z1v, Z1t, Z40, Z3x, Z3z, Z3y, Z41, Z1s, Z2j, Z3d, Z4f, Z1k, Z1l, Z1m, Z4d, Z4e, Z1i, Z2i, Z1j, Z3v, Z3s, Z3u, Z3t, Z3w, Z4l, Z4k, Z0v, Z0w, Z0x, Z0u, Z1h, Z4w, Z4v, Z4x, Z4u, Z4t, ex, Z4n, Z4m, ev_t, ev_c, Z2h, Z2g, Z4y, Z4z, Z2x, Z2w, Z2q, Z2u, Z2v, Z2r, Z2s, Z2t, putc, exBslice, lfill, exField, exIdxV, exIdxP, exBox, exAlloc, Z3o, Z3p, exStore, exFieldA, Z3h, Z3g, Z3m, Z3l, exPick, exUn, exBeq, exMM, exSeq, seqGo, exExt, binV, intOp, subc, Z5c, Z5b, Z59, Z5a, Z57, Z55, Z56, Z58, Z52, Z53, Z50, Z5d, S0, encI, encB, Z54, Z2p, Z2f, Z51, Z2m, Z2e, Z3j, Z3k, Z3i, Z4a, Z4b, Z49, Z47, Z48, idxT_Bs]
            refine ⟨_, ⟨_, q4 _ _⟩, ?_⟩
            try simp [AWb_seq, Z0o, Z0p, Z0l, Z0m, Z0t, Z0n, Z0r, Z0s, Z0q, Z28, Z27, Z2c, Z2d, Z3q, Z3r, Z3n, vIdx, Z5h, Z5g, Z5i, vApp, Z5e, Z4c, Z13, Z12, Z11, Z0z, Z0y, Z10, Z19, Z18, Z17, Z15, Z14, Z16, Z2n, Z2o, Z2l, Z2y, Z3c, Z3b, Z08, Z0a, Z07, Z01, Z03, Z00, Z05, Z06, Z04, Z26, Z25, Z4q, Z4s, Z4r, Z4p, Z1u, Z1v, Z1t, Z40, Z3x, Z3z, Z3y, Z41, Z1s, Z2j, Z3d, Z4f, Z1k, Z1l, Z1m, Z4d, Z4e, Z1i, Z2i, Z1j, Z3v, Z3s, Z3u, Z3t, Z3w, Z4l, Z4k, Z0v, Z0w, Z0x, Z0u, Z1h, Z4w, Z4v, Z4x, Z4u, Z4t, ex, Z4n, Z4m, ev_t, ev_c, Z2h, Z2g, Z4y, Z4z, Z2x, Z2w, Z2q, Z2u, Z2v, Z2r, Z2s, Z2t, putc, exBslice, lfill, exField, exIdxV, exIdxP, exBox, exAlloc, Z3o, Z3p, exStore, exFieldA, Z3h, Z3g, Z3m, Z3l, exPick, exUn, exBeq, exMM, exSeq, seqGo, exExt, binV, intOp, subc, Z5c, Z5b, Z59, Z5a, Z57, Z55, Z56, Z58, Z52, Z53, Z50, Z5d, S0, encI, encB, Z54, Z2p, Z2f, Z51, Z2m, Z2e, Z3j, Z3k, Z3i, Z4a, Z4b, Z49, Z47, Z48, idxT_Bs]
            refine ⟨_, ⟨_, q5 _ _⟩, ?_⟩
            try simp [AWb_seq, Z0o, Z0p, Z0l, Z0m, Z0t, Z0n, Z0r, Z0s, Z0q, Z28, Z27, Z2c, Z2d, Z3q, Z3r, Z3n, vIdx, Z5h, Z5g, Z5i, vApp, Z5e, Z4c, Z13, Z12, Z11, Z0z, Z0y, Z10, Z19, Z18, Z17, Z15, Z14, Z16, Z2n, Z2o, Z2l, Z2y, Z3c, Z3b, Z08, Z0a, Z07, Z01, Z03, Z00, Z05, Z06, Z04, Z26, Z25, Z4q, Z4s, Z4r, Z4p, Z1u, Z1v, Z1t, Z40, Z3x, Z3z, Z3y, Z41, Z1s, Z2j, Z3d, Z4f, Z1k, Z1l, Z1m, Z4d, Z4e, Z1i, Z2i, Z1j, Z3v, Z3s, Z3u, Z3t, Z3w, Z4l, Z4k, Z0v, Z0w, Z0x, Z0u, Z1h, Z4w, Z4v, Z4x, Z4u, Z4t, ex, Z4n, Z4m, ev_t, ev_c, Z2h, Z2g, Z4y, Z4z, Z2x, Z2w, Z2q, Z2u, Z2v, Z2r, Z2s, Z2t, putc, exBslice, lfill, exField, exIdxV, exIdxP, exBox, exAlloc, Z3o, Z3p, exStore, exFieldA, Z3h, Z3g, Z3m, Z3l, exPick, exUn, exBeq, exMM, exSeq, seqGo, exExt, binV, intOp, subc, Z5c, Z5b, Z59, Z5a, Z57, Z55, Z56, Z58, Z52, Z53, Z50, Z5d, S0, encI, encB, Z54, Z2p, Z2f, Z51, Z2m, Z2e, Z3j, Z3k, Z3i, Z4a, Z4b, Z49, Z47, Z48, idxT_Bs]
            refine ⟨_, ⟨_, q6 _ _⟩, ?_⟩
            try simp [AWb_seq, Z0o, Z0p, Z0l, Z0m, Z0t, Z0n, Z0r, Z0s, Z0q, Z28, Z27, Z2c, Z2d, Z3q, Z3r, Z3n, vIdx, Z5h, Z5g, Z5i, vApp, Z5e, Z4c, Z13, Z12, Z11, Z0z, Z0y, Z10, Z19, Z18, Z17, Z15, Z14, Z16, Z2n, Z2o, Z2l, Z2y, Z3c, Z3b, Z08, Z0a, Z07, Z01, Z03, Z00, Z05, Z06, Z04, Z26, Z25, Z4q, Z4s, Z4r, Z4p, Z1u, Z1v, Z1t, Z40, Z3x, Z3z, Z3y, Z41, Z1s, Z2j, Z3d, Z4f, Z1k, Z1l, Z1m, Z4d, Z4e, Z1i, Z2i, Z1j, Z3v, Z3s, Z3u, Z3t, Z3w, Z4l, Z4k, Z0v, Z0w, Z0x, Z0u, Z1h, Z4w, Z4v, Z4x, Z4u, Z4t, ex, Z4n, Z4m, ev_t, ev_c, Z2h, Z2g, Z4y, Z4z, Z2x, Z2w, Z2q, Z2u, Z2v, Z2r, Z2s, Z2t, putc, exBslice, lfill, exField, exIdxV, exIdxP, exBox, exAlloc, Z3o, Z3p, exStore, exFieldA, Z3h, Z3g, Z3m, Z3l, exPick, exUn, exBeq, exMM, exSeq, seqGo, exExt, binV, intOp, subc, Z5c, Z5b, Z59, Z5a, Z57, Z55, Z56, Z58, Z52, Z53, Z50, Z5d, S0, encI, encB, Z54, Z2p, Z2f, Z51, Z2m, Z2e, Z3j, Z3k, Z3i, Z4a, Z4b, Z49, Z47, Z48, idxT_Bs]
            refine ⟨_, ⟨_, q7 _ _⟩, ?_⟩
            try simp [AWb_seq, Z0o, Z0p, Z0l, Z0m, Z0t, Z0n, Z0r, Z0s, Z0q, Z28, Z27, Z2c, Z2d, Z3q, Z3r, Z3n, vIdx, Z5h, Z5g, Z5i, vApp, Z5e, Z4c, Z13, Z12, Z11, Z0z, Z0y, Z10, Z19, Z18, Z17, Z15, Z14, Z16, Z2n, Z2o, Z2l, Z2y, Z3c, Z3b, Z08, Z0a, Z07, Z01, Z03, Z00, Z05, Z06, Z04, Z26, Z25, Z4q, Z4s, Z4r, Z4p, Z1u, Z1v, Z1t, Z40, Z3x, Z3z, Z3y, Z41, Z1s, Z2j, Z3d, Z4f, Z1k, Z1l, Z1m, Z4d, Z4e, Z1i, Z2i, Z1j, Z3v, Z3s, Z3u, Z3t, Z3w, Z4l, Z4k, Z0v, Z0w, Z0x, Z0u, Z1h, Z4w, Z4v, Z4x, Z4u, Z4t, ex, Z4n, Z4m, ev_t, ev_c, Z2h, Z2g, Z4y, Z4z, Z2x, Z2w, Z2q, Z2u, Z2v, Z2r, Z2s, Z2t, putc, exBslice, lfill, exField, exIdxV, exIdxP, exBox, exAlloc, Z3o, Z3p, exStore, exFieldA, Z3h, Z3g, Z3m, Z3l, exPick, exUn, exBeq, exMM, exSeq, seqGo, exExt, binV, intOp, subc, Z5c, Z5b, Z59, Z5a, Z57, Z55, Z56, Z58, Z52, Z53, Z50, Z5d, S0, encI, encB, Z54, Z2p, Z2f, Z51, Z2m, Z2e, Z3j, Z3k, Z3i, Z4a, Z4b, Z49, Z47, Z48, idxT_Bs]
            refine ⟨_, ⟨_, q8 _ _⟩, ?_⟩
            try simp [AWb_seq, Z0o, Z0p, Z0l, Z0m, Z0t, Z0n, Z0r, Z0s, Z0q, Z28, Z27, Z2c, Z2d, Z3q, Z3r, Z3n, vIdx, Z5h, Z5g, Z5i, vApp, Z5e, Z4c, Z13, Z12, Z11, Z0z, Z0y, Z10, Z19, Z18, Z17, Z15, Z14, Z16, Z2n, Z2o, Z2l, Z2y, Z3c, Z3b, Z08, Z0a, Z07, Z01, Z03, Z00, Z05, Z06, Z04, Z26, Z25, Z4q, Z4s, Z4r, Z4p, Z1u, Z1v, Z1t, Z40, Z3x, Z3z, Z3y, Z41, Z1s, Z2j, Z3d, Z4f, Z1k, Z1l, Z1m, Z4d, Z4e, Z1i, Z2i, Z1j, Z3v, Z3s, Z3u, Z3t, Z3w, Z4l, Z4k, Z0v, Z0w, Z0x, Z0u, Z1h, Z4w, Z4v, Z4x, Z4u, Z4t, ex, Z4n, Z4m, ev_t, ev_c, Z2h, Z2g, Z4y, Z4z, Z2x, Z2w, Z2q, Z2u, Z2v, Z2r, Z2s, Z2t, putc, exBslice, lfill, exField, exIdxV, exIdxP, exBox, exAlloc, Z3o, Z3p, exStore, exFieldA, Z3h, Z3g, Z3m, Z3l, exPick, exUn, exBeq, exMM, exSeq, seqGo, exExt, binV, intOp, subc, Z5c, Z5b, Z59, Z5a, Z57, Z55, Z56, Z58, Z52, Z53, Z50, Z5d, S0, encI, encB, Z54, Z2p, Z2f, Z51, Z2m, Z2e, Z3j, Z3k, Z3i, Z4a, Z4b, Z49, Z47, Z48, idxT_Bs]
            refine ⟨_, ⟨_, q9 _ _⟩, ?_⟩
            try simp [AWb_seq, Z0o, Z0p, Z0l, Z0m, Z0t, Z0n, Z0r, Z0s, Z0q, Z28, Z27, Z2c, Z2d, Z3q, Z3r, Z3n, vIdx, Z5h, Z5g, Z5i, vApp, Z5e, Z4c, Z13, Z12, Z11, Z0z, Z0y, Z10, Z19, Z18, Z17, Z15, Z14, Z16, Z2n, Z2o, Z2l, Z2y, Z3c, Z3b, Z08, Z0a, Z07, Z01, Z03, Z00, Z05, Z06, Z04, Z26, Z25, Z4q, Z4s, Z4r, Z4p, Z1u, Z1v, Z1t, Z40, Z3x, Z3z, Z3y, Z41, Z1s, Z2j, Z3d, Z4f, Z1k, Z1l, Z1m, Z4d, Z4e, Z1i, Z2i, Z1j, Z3v, Z3s, Z3u, Z3t, Z3w, Z4l, Z4k, Z0v, Z0w, Z0x, Z0u, Z1h, Z4w, Z4v, Z4x, Z4u, Z4t, ex, Z4n, Z4m, ev_t, ev_c, Z2h, Z2g, Z4y, Z4z, Z2x, Z2w, Z2q, Z2u, Z2v, Z2r, Z2s, Z2t, putc, exBslice, lfill, exField, exIdxV, exIdxP, exBox, exAlloc, Z3o, Z3p, exStore, exFieldA, Z3h, Z3g, Z3m, Z3l, exPick, exUn, exBeq, exMM, exSeq, seqGo, exExt, binV, intOp, subc, Z5c, Z5b, Z59, Z5a, Z57, Z55, Z56, Z58, Z52, Z53, Z50, Z5d, S0, encI, encB, Z54, Z2p, Z2f, Z51, Z2m, Z2e, Z3j, Z3k, Z3i, Z4a, Z4b, Z49, Z47, Z48, idxT_Bs]
            exact FzK_B true _
          · have hb : ∀ x : Int, x ≠ 0 → (x != 0) = true := fun x h => by simp [h]
            by_cases hx : x = 0
            · by_cases hy : y = 0
              · have hz : z = 13 := by omega
                subst hx; subst hy; subst hz
                simp [AWb_seq, Z0o, Z0p, Z0l, Z0m, Z0t, Z0n, Z0r, Z0s, Z0q, Z28, Z27, Z2c, Z2d, Z3q, Z3r, Z3n, vIdx, Z5h, Z5g, Z5i, vApp, Z5e, Z4c, Z13, Z12, Z11, Z0z, Z0y, Z10, Z19, Z18, Z17, Z15, Z14, Z16, Z2n, Z2o, Z2l, Z2y, Z3c, Z3b, Z08, Z0a, Z07, Z01, Z03, Z00, Z05, Z06, Z04, Z26, Z25, Z4q, Z4s, Z4r, Z4p, Z1u, Z1v, Z1t, Z40, Z3x, Z3z, Z3y, Z41, Z1s, Z2j, Z3d, Z4f, Z1k, Z1l, Z1m, Z4d, Z4e, Z1i, Z2i, Z1j, Z3v, Z3s, Z3u, Z3t, Z3w, Z4l, Z4k, Z0v, Z0w, Z0x, Z0u, Z1h, Z4w, Z4v, Z4x, Z4u, Z4t, ex, Z4n, Z4m, ev_t, ev_c, Z2h, Z2g, Z4y, Z4z, Z2x, Z2w, Z2q, Z2u, Z2v, Z2r, Z2s, Z2t, putc, exBslice, lfill, exField, exIdxV, exIdxP, exBox, exAlloc, Z3o, Z3p, exStore, exFieldA, Z3h, Z3g, Z3m, Z3l, exPick, exUn, exBeq, exMM, exSeq, seqGo, exExt, binV, intOp, subc, Z5c, Z5b, Z59, Z5a, Z57, Z55, Z56, Z58, Z52, Z53, Z50, Z5d, S0, encI, encB, Z54, Z2p, Z2f, Z51, Z2m, Z2e, Z3j, Z3k, Z3i, Z4a, Z4b, Z49, Z47, Z48, idxT_Bs, encDE]
                exact FzK_B true _
              · have hx13 : x ≠ 13 := by omega
                by_cases hy13 : y = 13
                · subst hx; subst hy13
                  simp [AWb_seq, Z0o, Z0p, Z0l, Z0m, Z0t, Z0n, Z0r, Z0s, Z0q, Z28, Z27, Z2c, Z2d, Z3q, Z3r, Z3n, vIdx, Z5h, Z5g, Z5i, vApp, Z5e, Z4c, Z13, Z12, Z11, Z0z, Z0y, Z10, Z19, Z18, Z17, Z15, Z14, Z16, Z2n, Z2o, Z2l, Z2y, Z3c, Z3b, Z08, Z0a, Z07, Z01, Z03, Z00, Z05, Z06, Z04, Z26, Z25, Z4q, Z4s, Z4r, Z4p, Z1u, Z1v, Z1t, Z40, Z3x, Z3z, Z3y, Z41, Z1s, Z2j, Z3d, Z4f, Z1k, Z1l, Z1m, Z4d, Z4e, Z1i, Z2i, Z1j, Z3v, Z3s, Z3u, Z3t, Z3w, Z4l, Z4k, Z0v, Z0w, Z0x, Z0u, Z1h, Z4w, Z4v, Z4x, Z4u, Z4t, ex, Z4n, Z4m, ev_t, ev_c, Z2h, Z2g, Z4y, Z4z, Z2x, Z2w, Z2q, Z2u, Z2v, Z2r, Z2s, Z2t, putc, exBslice, lfill, exField, exIdxV, exIdxP, exBox, exAlloc, Z3o, Z3p, exStore, exFieldA, Z3h, Z3g, Z3m, Z3l, exPick, exUn, exBeq, exMM, exSeq, seqGo, exExt, binV, intOp, subc, Z5c, Z5b, Z59, Z5a, Z57, Z55, Z56, Z58, Z52, Z53, Z50, Z5d, S0, encI, encB, Z54, Z2p, Z2f, Z51, Z2m, Z2e, Z3j, Z3k, Z3i, Z4a, Z4b, Z49, Z47, Z48, idxT_Bs, encDE]
                  exact FzK_B true _
                · have hz : z = 13 := by omega
                  subst hx; subst hz
                  have e1 := hb y hy
                  have e2 : (y == 13) = false := by simp [hy13]
                  simp [AWb_seq, Z0o, Z0p, Z0l, Z0m, Z0t, Z0n, Z0r, Z0s, Z0q, Z28, Z27, Z2c, Z2d, Z3q, Z3r, Z3n, vIdx, Z5h, Z5g, Z5i, vApp, Z5e, Z4c, Z13, Z12, Z11, Z0z, Z0y, Z10, Z19, Z18, Z17, Z15, Z14, Z16, Z2n, Z2o, Z2l, Z2y, Z3c, Z3b, Z08, Z0a, Z07, Z01, Z03, Z00, Z05, Z06, Z04, Z26, Z25, Z4q, Z4s, Z4r, Z4p, Z1u, Z1v, Z1t, Z40, Z3x, Z3z, Z3y, Z41, Z1s, Z2j, Z3d, Z4f, Z1k, Z1l, Z1m, Z4d, Z4e, Z1i, Z2i, Z1j, Z3v, Z3s, Z3u, Z3t, Z3w, Z4l, Z4k, Z0v, Z0w, Z0x, Z0u, Z1h, Z4w, Z4v, Z4x, Z4u, Z4t, ex, Z4n, Z4m, ev_t, ev_c, Z2h, Z2g, Z4y, Z4z, Z2x, Z2w, Z2q, Z2u, Z2v, Z2r, Z2s, Z2t, putc, exBslice, lfill, exField, exIdxV, exIdxP, exBox, exAlloc, Z3o, Z3p, exStore, exFieldA, Z3h, Z3g, Z3m, Z3l, exPick, exUn, exBeq, exMM, exSeq, seqGo, exExt, binV, intOp, subc, Z5c, Z5b, Z59, Z5a, Z57, Z55, Z56, Z58, Z52, Z53, Z50, Z5d, S0, encI, encB, Z54, Z2p, Z2f, Z51, Z2m, Z2e, Z3j, Z3k, Z3i, Z4a, Z4b, Z49, Z47, Z48, idxT_Bs, encDE, e1, e2]
                  exact FzK_B true _
            · have e1 := hb x hx
              by_cases hx13 : x = 13
              · subst hx13
                simp [AWb_seq, Z0o, Z0p, Z0l, Z0m, Z0t, Z0n, Z0r, Z0s, Z0q, Z28, Z27, Z2c, Z2d, Z3q, Z3r, Z3n, vIdx, Z5h, Z5g, Z5i, vApp, Z5e, Z4c, Z13, Z12, Z11, Z0z, Z0y, Z10, Z19, Z18, Z17, Z15, Z14, Z16, Z2n, Z2o, Z2l, Z2y, Z3c, Z3b, Z08, Z0a, Z07, Z01, Z03, Z00, Z05, Z06, Z04, Z26, Z25, Z4q, Z4s, Z4r, Z4p, Z1u, Z1v, Z1t, Z40, Z3x, Z3z, Z3y, Z41, Z1s, Z2j, Z3d, Z4f, Z1k, Z1l, Z1m, Z4d, Z4e, Z1i, Z2i, Z1j, Z3v, Z3s, Z3u, Z3t, Z3w, Z4l, Z4k, Z0v, Z0w, Z0x, Z0u, Z1h, Z4w, Z4v, Z4x, Z4u, Z4t, ex, Z4n, Z4m, ev_t, ev_c, Z2h, Z2g, Z4y, Z4z, Z2x, Z2w, Z2q, Z2u, Z2v, Z2r, Z2s, Z2t, putc, exBslice, lfill, exField, exIdxV, exIdxP, exBox, exAlloc, Z3o, Z3p, exStore, exFieldA, Z3h, Z3g, Z3m, Z3l, exPick, exUn, exBeq, exMM, exSeq, seqGo, exExt, binV, intOp, subc, Z5c, Z5b, Z59, Z5a, Z57, Z55, Z56, Z58, Z52, Z53, Z50, Z5d, S0, encI, encB, Z54, Z2p, Z2f, Z51, Z2m, Z2e, Z3j, Z3k, Z3i, Z4a, Z4b, Z49, Z47, Z48, idxT_Bs, encDE]
                exact FzK_B true _
              · have e2 : (x == 13) = false := by simp [hx13]
                by_cases hy13 : y = 13
                · subst hy13
                  simp [AWb_seq, Z0o, Z0p, Z0l, Z0m, Z0t, Z0n, Z0r, Z0s, Z0q, Z28, Z27, Z2c, Z2d, Z3q, Z3r, Z3n, vIdx, Z5h, Z5g, Z5i, vApp, Z5e, Z4c, Z13, Z12, Z11, Z0z, Z0y, Z10, Z19, Z18, Z17, Z15, Z14, Z16, Z2n, Z2o, Z2l, Z2y, Z3c, Z3b, Z08, Z0a, Z07, Z01, Z03, Z00, Z05, Z06, Z04, Z26, Z25, Z4q, Z4s, Z4r, Z4p, Z1u, Z1v, Z1t, Z40, Z3x, Z3z, Z3y, Z41, Z1s, Z2j, Z3d, Z4f, Z1k, Z1l, Z1m, Z4d, Z4e, Z1i, Z2i, Z1j, Z3v, Z3s, Z3u, Z3t, Z3w, Z4l, Z4k, Z0v, Z0w, Z0x, Z0u, Z1h, Z4w, Z4v, Z4x, Z4u, Z4t, ex, Z4n, Z4m, ev_t, ev_c, Z2h, Z2g, Z4y, Z4z, Z2x, Z2w, Z2q, Z2u, Z2v, Z2r, Z2s, Z2t, putc, exBslice, lfill, exField, exIdxV, exIdxP, exBox, exAlloc, Z3o, Z3p, exStore, exFieldA, Z3h, Z3g, Z3m, Z3l, exPick, exUn, exBeq, exMM, exSeq, seqGo, exExt, binV, intOp, subc, Z5c, Z5b, Z59, Z5a, Z57, Z55, Z56, Z58, Z52, Z53, Z50, Z5d, S0, encI, encB, Z54, Z2p, Z2f, Z51, Z2m, Z2e, Z3j, Z3k, Z3i, Z4a, Z4b, Z49, Z47, Z48, idxT_Bs, encDE, e1, e2]
                  exact FzK_B true _
                · have hz : z = 13 := by omega
                  subst hz
                  have e3 : (y == 13) = false := by simp [hy13]
                  simp [AWb_seq, Z0o, Z0p, Z0l, Z0m, Z0t, Z0n, Z0r, Z0s, Z0q, Z28, Z27, Z2c, Z2d, Z3q, Z3r, Z3n, vIdx, Z5h, Z5g, Z5i, vApp, Z5e, Z4c, Z13, Z12, Z11, Z0z, Z0y, Z10, Z19, Z18, Z17, Z15, Z14, Z16, Z2n, Z2o, Z2l, Z2y, Z3c, Z3b, Z08, Z0a, Z07, Z01, Z03, Z00, Z05, Z06, Z04, Z26, Z25, Z4q, Z4s, Z4r, Z4p, Z1u, Z1v, Z1t, Z40, Z3x, Z3z, Z3y, Z41, Z1s, Z2j, Z3d, Z4f, Z1k, Z1l, Z1m, Z4d, Z4e, Z1i, Z2i, Z1j, Z3v, Z3s, Z3u, Z3t, Z3w, Z4l, Z4k, Z0v, Z0w, Z0x, Z0u, Z1h, Z4w, Z4v, Z4x, Z4u, Z4t, ex, Z4n, Z4m, ev_t, ev_c, Z2h, Z2g, Z4y, Z4z, Z2x, Z2w, Z2q, Z2u, Z2v, Z2r, Z2s, Z2t, putc, exBslice, lfill, exField, exIdxV, exIdxP, exBox, exAlloc, Z3o, Z3p, exStore, exFieldA, Z3h, Z3g, Z3m, Z3l, exPick, exUn, exBeq, exMM, exSeq, seqGo, exExt, binV, intOp, subc, Z5c, Z5b, Z59, Z5a, Z57, Z55, Z56, Z58, Z52, Z53, Z50, Z5d, S0, encI, encB, Z54, Z2p, Z2f, Z51, Z2m, Z2e, Z3j, Z3k, Z3i, Z4a, Z4b, Z49, Z47, Z48, idxT_Bs, encDE, e1, e2, e3]
                  exact FzK_B true _
end Go.Rf

