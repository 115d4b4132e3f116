import Derived.Test.YtajombmjidnbcaaDoorRfP7
import Derived.Test.YtajombmjidnbcaaDoorRfQ6
/- Own work: automata of pairs, as the document makes them. -/
set_option linter.unusedVariables false
set_option linter.unusedSimpArgs false
namespace Go.Rf
open Go.RowKit
def c_mp_add (f_caesuraref16_marked : FuncId) : AC :=
  (.reg (some [[], [], [], [], [], [true], [false, true], [false, false, true], [false, false, false, true], [false, false, false, false, true], [false, false, false, false, false, true], [false, false, false, false, false, false, true], [false, false, false, false, false, false, false, true], [false, false, false, false, false, false, false, false, true], [false, false, false, false, false, false, false, false, false, true], [false, false, false, false, false, false, false, false, false, false, true], [false, false, false, false, false, false, false, false, false, false, false, true], [false, false, false, false, false, false, false, false, false, false, false, false, true], [], [], [], [true]]) [
      ⟨(some 117), .fieldA 1 (.t 11), none, none⟩,
      ⟨(some 118), .load none (.t 117), none, none⟩,
      ⟨(some 119), .mv (.t 15), none, none⟩,
      ⟨(some 120), .bslice 1 1 (.sl true []) [(0, (.t 119))], none, none⟩,
      ⟨(some 121), .app 1 24 (.t 118) (.t 120), none, none⟩,
      ⟨(some 122), .fieldA 2 (.t 11), none, none⟩,
      ⟨(some 123), .load none (.t 122), none, none⟩,
      ⟨(some 124), .fieldA 2 (.t 4), none, none⟩,
      ⟨(some 125), .load none (.t 124), none, none⟩,
      ⟨(some 126), .mv (.t 13), none, none⟩,
      ⟨(some 127), .idxA 1 (.t 125) (.t 126), none, none⟩,
      ⟨(some 128), .load none (.t 127), none, none⟩,
      ⟨(some 129), .fieldA 2 (.t 5), none, none⟩,
      ⟨(some 130), .load none (.t 129), none, none⟩,
      ⟨(some 131), .mv (.t 14), none, none⟩,
      ⟨(some 132), .idxA 1 (.t 130) (.t 131), none, none⟩,
      ⟨(some 133), .load none (.t 132), none, none⟩,
      ⟨(some 134), .mv (.t 3), none, none⟩,
      ⟨(some 135), .mv (.c .junk), none, (some ((.c (.clo f_caesuraref16_marked [] [])), [(.t 128), (.t 133), (.t 134)]))⟩,
      ⟨(some 136), .bslice 1 1 (.v (.bool false)) [(0, (.t 135))], none, none⟩,
      ⟨(some 137), .app 1 1 (.t 123) (.t 136), none, none⟩,
      ⟨(some 138), .fieldA 1 (.t 11), none, none⟩,
      ⟨none, .store 1 (.t 138) (.t 121), none, none⟩,
      ⟨(some 139), .fieldA 2 (.t 11), none, none⟩,
      ⟨none, .store 1 (.t 139) (.t 137), none, none⟩])
def c_mp_find : AC :=
  (.block 4 (.loop (.seq (.seq (.reg (some []) [
           ⟨(some 87), .mv (.t 18), none, none⟩,
           ⟨(some 88), .mv (.t 10), none, none⟩,
           ⟨(some 89), .len (.t 88), none, none⟩,
           ⟨(some 90), .bin .lss (.t 87) (.t 89), none, none⟩,
           ⟨(some 91), .mv (.t 90), none, none⟩,
           ⟨(some 92), .mv (.t 10), (some (91, true)), none⟩,
           ⟨(some 93), .mv (.t 18), (some (91, true)), none⟩,
           ⟨(some 94), .idxA 2 (.t 92) (.t 93), (some (91, true)), none⟩,
           ⟨(some 95), .load (some 2) (.t 94), (some (91, true)), none⟩,
           ⟨(some 96), .load (some 2) (.t 17), (some (91, true)), none⟩,
           ⟨(some 97), .seq true [0, 1] (.t 95) (.t 96), (some (91, true)), none⟩,
           ⟨(some 98), .pick (.t 91) (.t 97) (.c (.v (.bool false))), none, none⟩])
          (.cond (.t 98) .skip (.exit 4)))
          (.block 5 (.reg none [
            ⟨(some 99), .mv (.t 18), none, none⟩,
            ⟨(some 100), .bin .add (.t 99) (.c (.v (.int .i64 1))), none, none⟩,
            ⟨(some 18), .mv (.t 100), none, none⟩])))))
def c_mp_row : AC :=
  (.block 2 (.loop (.seq (.seq (.reg none [
        ⟨(some 64), .mv (.t 16), none, none⟩,
        ⟨(some 65), .fieldA 0 (.t 4), none, none⟩,
        ⟨(some 66), .load none (.t 65), none, none⟩,
        ⟨(some 67), .bin .lss (.t 64) (.t 66), none, none⟩])
       (.cond (.t 67) .skip (.exit 2)))
       (.seq (.block 3 (.seq (.reg (some [[], [], [], [], [], [], [], [], [], [], [], [], [], [], [], [], [], [true, true, true, true, true, true, true, true, true, true, true, true, true, true, true, true, true]]) [
         ⟨(some 70), .fieldA 1 (.t 4), none, none⟩,
         ⟨(some 71), .load none (.t 70), none, none⟩,
         ⟨(some 72), .mv (.t 13), none, none⟩,
         ⟨(some 73), .idxA 1 (.t 71) (.t 72), none, none⟩,
         ⟨(some 74), .load none (.t 73), none, none⟩,
         ⟨(some 75), .mv (.t 16), none, none⟩,
         ⟨(some 76), .idxA 1 (.t 74) (.t 75), none, none⟩,
         ⟨(some 77), .load none (.t 76), none, none⟩,
         ⟨(some 78), .fieldA 1 (.t 5), none, none⟩,
         ⟨(some 79), .load none (.t 78), none, none⟩,
         ⟨(some 80), .mv (.t 14), none, none⟩,
         ⟨(some 81), .idxA 1 (.t 79) (.t 80), none, none⟩,
         ⟨(some 82), .load none (.t 81), none, none⟩,
         ⟨(some 83), .mv (.t 16), none, none⟩,
         ⟨(some 84), .idxA 1 (.t 82) (.t 83), none, none⟩,
         ⟨(some 85), .load none (.t 84), none, none⟩,
         ⟨(some 86), .build (.agg [(.v (.int .i64 0)), (.v (.int .i64 0))]) [(0, 1), (1, 1)] [(0, (.t 77)), (1, (.t 85))], none, none⟩,
         ⟨(some 17), .alloc (.agg [(.v (.int .i64 0)), (.v (.int .i64 0))]) 2, none, none⟩,
         ⟨none, .store 2 (.t 17) (.t 86), none, none⟩])
        (.seq (.reg none [
         ⟨(some 18), .mv (.c (.v (.int .i64 0))), none, none⟩])
        (.seq c_mp_find
        (.seq (.seq (.reg none [
         ⟨(some 101), .mv (.t 18), none, none⟩,
         ⟨(some 102), .mv (.t 10), none, none⟩,
         ⟨(some 103), .len (.t 102), none, none⟩,
         ⟨(some 104), .bin .eql (.t 101) (.t 103), none, none⟩])
        (.cond (.t 104) (.seq (.seq (.reg none [
          ⟨(some 105), .mv (.t 18), none, none⟩,
          ⟨(some 106), .mv (.t 2), none, none⟩,
          ⟨(some 107), .bin .eql (.t 105) (.t 106), none, none⟩])
         (.cond (.t 107) (.seq (.reg none [
           ⟨(some 108), .build (.agg [(.v (.int .i64 0)), (.sl true []), (.sl true [])]) [] [], none, none⟩,
           ⟨none, .store 3 (.t 8) (.t 108), none, none⟩,
           ⟨(some 9), .mv (.c (.v (.int .i64 13))), none, none⟩])
          .ret) .skip))
         (.reg none [
          ⟨(some 109), .mv (.t 10), none, none⟩,
          ⟨(some 110), .load (some 2) (.t 17), none, none⟩,
          ⟨(some 111), .bslice 2 1 (.agg [(.v (.int .i64 0)), (.v (.int .i64 0))]) [(0, (.t 110))], none, none⟩,
          ⟨(some 112), .app 2 16 (.t 109) (.t 111), none, none⟩,
          ⟨(some 10), .mv (.t 112), none, none⟩])) .skip))
        (.reg none [
         ⟨(some 113), .mv (.t 15), none, none⟩,
         ⟨(some 114), .mv (.t 18), none, none⟩,
         ⟨(some 115), .bslice 1 1 (.v (.int .i64 0)) [(0, (.t 114))], none, none⟩,
         ⟨(some 116), .app 1 8 (.t 113) (.t 115), none, none⟩,
         ⟨(some 15), .mv (.t 116), none, none⟩]))))))
       (.reg none [
        ⟨(some 68), .mv (.t 16), none, none⟩,
        ⟨(some 69), .bin .add (.t 68) (.c (.v (.int .i64 1))), none, none⟩,
        ⟨(some 16), .mv (.t 69), none, none⟩])))))
def c_mp_out (f_caesuraref16_marked : FuncId) : AC :=
  (.block 0 (.loop (.seq (.seq (.reg none [
     ⟨(some 48), .mv (.t 12), none, none⟩,
     ⟨(some 49), .mv (.t 10), none, none⟩,
     ⟨(some 50), .len (.t 49), none, none⟩,
     ⟨(some 51), .bin .lss (.t 48) (.t 50), none, none⟩])
    (.cond (.t 51) .skip (.exit 0)))
    (.seq (.block 1 (.seq (.reg (some []) [
      ⟨(some 54), .mv (.t 10), none, none⟩,
      ⟨(some 55), .mv (.t 12), none, none⟩,
      ⟨(some 56), .idxA 2 (.t 54) (.t 55), none, none⟩,
      ⟨(some 57), .idxP 2 1 (.t 56) (.c (.v (.int .i64 0))), none, none⟩,
      ⟨(some 58), .load none (.t 57), none, none⟩,
      ⟨(some 59), .mv (.t 10), none, none⟩,
      ⟨(some 60), .mv (.t 12), none, none⟩,
      ⟨(some 61), .idxA 2 (.t 59) (.t 60), none, none⟩,
      ⟨(some 62), .idxP 2 1 (.t 61) (.c (.v (.int .i64 1))), none, none⟩,
      ⟨(some 63), .load none (.t 62), none, none⟩,
      ⟨(some 13), .mv (.t 58), none, none⟩,
      ⟨(some 14), .mv (.t 63), none, none⟩])
     (.seq (.reg none [
      ⟨(some 15), .mv (.c (.sl true [])), none, none⟩])
     (.seq (.seq (.reg none [
      ⟨(some 16), .mv (.c (.v (.int .i64 0))), none, none⟩])
     c_mp_row)
     (c_mp_add f_caesuraref16_marked)))))
    (.reg none [
     ⟨(some 52), .mv (.t 12), none, none⟩,
     ⟨(some 53), .bin .add (.t 52) (.c (.v (.int .i64 1))), none, none⟩,
     ⟨(some 12), .mv (.t 53), none, none⟩])))))
def c_mp_fin : AC :=
  (.seq (.reg none [
   ⟨(some 140), .load (some 3) (.t 11), none, none⟩,
   ⟨none, .store 3 (.t 8) (.t 140), none, none⟩,
   ⟨(some 9), .mv (.c (.v (.int .i64 0))), none, none⟩])
  .ret)
def c_caesuraref16_made (f_caesuraref15_Right f_caesuraref16_marked : FuncId) : AC :=
  (.seq (.reg none [
   ⟨(some 4), .box 3 (.t 0), none, none⟩,
   ⟨(some 5), .box 3 (.t 1), none, none⟩,
   ⟨(some 8), .alloc (.agg [(.v (.int .i64 0)), (.sl true []), (.sl true [])]) 3, none, none⟩,
   ⟨(some 9), .mv (.c (.v (.int .i64 0))), none, none⟩])
  (.seq (.seq (.reg none [
   ⟨(some 19), .load (some 3) (.t 4), none, none⟩,
   ⟨(some 20), .mv (.c .junk), none, (some ((.c (.clo f_caesuraref15_Right [] [])), [(.t 19)]))⟩,
   ⟨(some 21), .un .not (.t 20), none, none⟩,
   ⟨(some 22), .mv (.t 21), none, none⟩,
   ⟨(some 23), .load (some 3) (.t 5), (some (22, false)), none⟩,
   ⟨(some 24), .mv (.c .junk), (some (22, false)), (some ((.c (.clo f_caesuraref15_Right [] [])), [(.t 23)]))⟩,
   ⟨(some 25), .un .not (.t 24), (some (22, false)), none⟩,
   ⟨(some 26), .pick (.t 22) (.c (.v (.bool true))) (.t 25), none, none⟩,
   ⟨(some 27), .mv (.t 26), none, none⟩,
   ⟨(some 28), .fieldA 0 (.t 4), (some (27, false)), none⟩,
   ⟨(some 29), .load none (.t 28), (some (27, false)), none⟩,
   ⟨(some 30), .fieldA 0 (.t 5), (some (27, false)), none⟩,
   ⟨(some 31), .load none (.t 30), (some (27, false)), none⟩,
   ⟨(some 32), .bin .neq (.t 29) (.t 31), (some (27, false)), none⟩,
   ⟨(some 33), .pick (.t 27) (.c (.v (.bool true))) (.t 32), none, none⟩,
   ⟨(some 34), .mv (.t 33), none, none⟩,
   ⟨(some 35), .mv (.t 2), (some (34, false)), none⟩,
   ⟨(some 36), .bin .lss (.t 35) (.c (.v (.int .i64 1))), (some (34, false)), none⟩,
   ⟨(some 37), .pick (.t 34) (.c (.v (.bool true))) (.t 36), none, none⟩,
   ⟨(some 38), .mv (.t 37), none, none⟩,
   ⟨(some 39), .mv (.t 2), (some (38, false)), none⟩,
   ⟨(some 40), .bin .gtr (.t 39) (.c (.v (.int .i64 3000))), (some (38, false)), none⟩,
   ⟨(some 41), .pick (.t 38) (.c (.v (.bool true))) (.t 40), none, none⟩])
  (.cond (.t 41) (.seq (.reg none [
    ⟨(some 42), .build (.agg [(.v (.int .i64 0)), (.sl true []), (.sl true [])]) [] [], none, none⟩,
    ⟨none, .store 3 (.t 8) (.t 42), none, none⟩,
    ⟨(some 9), .mv (.c (.v (.int .i64 1))), none, none⟩])
   .ret) .skip))
  (.seq (.reg none [
   ⟨(some 43), .build (.agg [(.v (.int .i64 0)), (.v (.int .i64 0))]) [(0, 1), (1, 1)] [(0, (.c (.v (.int .i64 0)))), (1, (.c (.v (.int .i64 0))))], none, none⟩,
   ⟨(some 44), .bslice 2 1 (.agg [(.v (.int .i64 0)), (.v (.int .i64 0))]) [(0, (.t 43))], none, none⟩,
   ⟨(some 10), .mv (.t 44), none, none⟩])
  (.seq (.reg none [
   ⟨(some 45), .fieldA 0 (.t 4), none, none⟩,
   ⟨(some 46), .load none (.t 45), none, none⟩,
   ⟨(some 47), .build (.agg [(.v (.int .i64 0)), (.sl true []), (.sl true [])]) [(0, 1)] [(0, (.t 46))], none, none⟩,
   ⟨(some 11), .alloc (.agg [(.v (.int .i64 0)), (.sl true []), (.sl true [])]) 3, none, none⟩,
   ⟨none, .store 3 (.t 11) (.t 47), none, none⟩])
  (.seq (.seq (.reg none [
   ⟨(some 12), .mv (.c (.v (.int .i64 0))), none, none⟩])
  (c_mp_out f_caesuraref16_marked))
  c_mp_fin)))))
def c_caesuraref16_Xor (f_caesuraref16_made : FuncId) : AC :=
  (.seq (.reg none [
   ⟨(some 3), .box 3 (.t 0), none, none⟩,
   ⟨(some 4), .box 3 (.t 1), none, none⟩,
   ⟨(some 6), .alloc (.agg [(.v (.int .i64 0)), (.sl true []), (.sl true [])]) 3, none, none⟩,
   ⟨(some 7), .mv (.c (.v (.int .i64 0))), none, none⟩])
  (.seq (.reg none [
   ⟨(some 8), .load (some 3) (.t 3), none, none⟩,
   ⟨(some 9), .load (some 3) (.t 4), none, none⟩,
   ⟨(some 10), .mv (.t 2), none, none⟩,
   ⟨(some 11), .mv (.c .junk), none, (some ((.c (.clo f_caesuraref16_made [] [])), [(.t 8), (.t 9), (.t 10), (.c (.v (.int .i64 3)))]))⟩,
   ⟨(some 12), .ext 0 (.t 11), none, none⟩,
   ⟨(some 13), .ext 1 (.t 11), none, none⟩,
   ⟨none, .store 3 (.t 6) (.t 12), none, none⟩,
   ⟨(some 7), .mv (.t 13), none, none⟩])
  .ret))
def c_caesuraref16_marked : AC :=
  (.seq (.reg none [
   ⟨(some 6), .mv (.c (.v (.bool false))), none, none⟩])
  (.seq (.seq (.reg none [
   ⟨(some 7), .mv (.t 2), none, none⟩])
  (.block 0 (.seq (.reg none [
    ⟨(some 9), .bin .eql (.t 7) (.c (.v (.int .i64 0))), none, none⟩,
    ⟨(some 8), .mv (.t 9), none, none⟩])
   (.cond (.t 8) (.seq (.reg none [
     ⟨(some 10), .mv (.t 0), none, none⟩,
     ⟨(some 11), .mv (.t 10), none, none⟩,
     ⟨(some 12), .mv (.t 1), (some (11, false)), none⟩,
     ⟨(some 13), .pick (.t 11) (.c (.v (.bool true))) (.t 12), none, none⟩,
     ⟨(some 6), .mv (.t 13), none, none⟩])
    .ret) (.seq (.reg none [
     ⟨(some 15), .bin .eql (.t 7) (.c (.v (.int .i64 1))), none, none⟩,
     ⟨(some 14), .mv (.t 15), none, none⟩])
    (.cond (.t 14) (.seq (.reg none [
      ⟨(some 16), .mv (.t 0), none, none⟩,
      ⟨(some 17), .mv (.t 16), none, none⟩,
      ⟨(some 18), .mv (.t 1), (some (17, true)), none⟩,
      ⟨(some 19), .pick (.t 17) (.t 18) (.c (.v (.bool false))), none, none⟩,
      ⟨(some 6), .mv (.t 19), none, none⟩])
     .ret) (.seq (.reg none [
      ⟨(some 21), .bin .eql (.t 7) (.c (.v (.int .i64 2))), none, none⟩,
      ⟨(some 20), .mv (.t 21), none, none⟩])
     (.cond (.t 20) (.seq (.reg none [
       ⟨(some 22), .mv (.t 0), none, none⟩,
       ⟨(some 23), .mv (.t 22), none, none⟩,
       ⟨(some 24), .mv (.t 1), (some (23, true)), none⟩,
       ⟨(some 25), .un .not (.t 24), (some (23, true)), none⟩,
       ⟨(some 26), .pick (.t 23) (.t 25) (.c (.v (.bool false))), none, none⟩,
       ⟨(some 6), .mv (.t 26), none, none⟩])
      .ret) .skip))))))))
  (.seq (.reg none [
   ⟨(some 27), .mv (.t 0), none, none⟩,
   ⟨(some 28), .mv (.t 1), none, none⟩,
   ⟨(some 29), .beq true (.t 27) (.t 28), none, none⟩,
   ⟨(some 6), .mv (.t 29), none, none⟩])
  .ret)))
def kindM : Int → Bool → Bool → Bool := fun k p q => if k = 0 then p || q else if k = 1 then p && q else if k = 2 then p && !q else p != q
theorem marked_body {P : Program} (p q : Bool) (k : Int) : AWb P 0 c_caesuraref16_marked (RetK [6] (FzK (encB (kindM k p q)))) (argF [encB p, encB q, encI k]) S0 := by
  unfold kindM
  by_cases h0 : k = 0
  · subst h0
    cases p <;> (simp [AWb_seq, Z0m, Z0n, Z0j, Z0k, Z0r, Z0l, Z0p, Z0q, Z0o, Z21, Z20, Z22, Z23, Z3d, Z3e, Z3a, vIdx, Z4x, Z4w, Z4y, vApp, Z4u, Z3u, Z11, Z10, Z0z, Z0x, Z0w, Z0y, Z17, Z16, Z15, Z13, Z12, Z14, Z2c, Z2d, Z2a, Z2n, Z31, Z30, Z07, Z08, Z06, Z01, Z02, Z00, Z04, Z05, Z03, Z1z, Z1y, Z46, Z48, Z47, Z45, Z1n, Z1o, Z1m, Z3n, Z3k, Z3m, Z3l, Z3o, Z1l, Z29, Z32, Z3x, Z1i, Z1j, Z1k, Z3v, Z3w, Z1g, Z28, Z1h, Z3i, Z3f, Z3h, Z3g, Z3j, Z41, Z40, Z0t, Z0u, Z0v, Z0s, Z1f, Z4c, Z4b, Z4d, Z4a, Z49, ex, Z43, Z42, ev_t, ev_c, Z27, Z26, Z4e, Z4f, Z2m, Z2l, Z2f, Z2j, Z2k, Z2g, Z2h, Z2i, putc, exBslice, lfill, exField, exIdxV, exIdxP, exBox, exAlloc, Z3b, Z3c, exStore, exFieldA, Z34, Z33, Z39, Z38, exPick, exUn, exBeq, exMM, exSeq, seqGo, exExt, binV, intOp, subc, Z4s, Z4r, Z4p, Z4q, Z4n, Z4l, Z4m, Z4o, Z4i, Z4j, Z4g, Z4t, S0, encI, encB, Z4k, Z2e, Z25, Z4h, Z2b, Z24, Z36, Z37, Z35, Z3s, Z3t, Z3r, Z3p, Z3q, idxT_Bs, c_caesuraref16_marked]; exact FzK_B _ _)
  · have h0' : (k == 0) = false := by simp [h0]
    by_cases h1 : k = 1
    · subst h1
      cases p <;> (simp [AWb_seq, Z0m, Z0n, Z0j, Z0k, Z0r, Z0l, Z0p, Z0q, Z0o, Z21, Z20, Z22, Z23, Z3d, Z3e, Z3a, vIdx, Z4x, Z4w, Z4y, vApp, Z4u, Z3u, Z11, Z10, Z0z, Z0x, Z0w, Z0y, Z17, Z16, Z15, Z13, Z12, Z14, Z2c, Z2d, Z2a, Z2n, Z31, Z30, Z07, Z08, Z06, Z01, Z02, Z00, Z04, Z05, Z03, Z1z, Z1y, Z46, Z48, Z47, Z45, Z1n, Z1o, Z1m, Z3n, Z3k, Z3m, Z3l, Z3o, Z1l, Z29, Z32, Z3x, Z1i, Z1j, Z1k, Z3v, Z3w, Z1g, Z28, Z1h, Z3i, Z3f, Z3h, Z3g, Z3j, Z41, Z40, Z0t, Z0u, Z0v, Z0s, Z1f, Z4c, Z4b, Z4d, Z4a, Z49, ex, Z43, Z42, ev_t, ev_c, Z27, Z26, Z4e, Z4f, Z2m, Z2l, Z2f, Z2j, Z2k, Z2g, Z2h, Z2i, putc, exBslice, lfill, exField, exIdxV, exIdxP, exBox, exAlloc, Z3b, Z3c, exStore, exFieldA, Z34, Z33, Z39, Z38, exPick, exUn, exBeq, exMM, exSeq, seqGo, exExt, binV, intOp, subc, Z4s, Z4r, Z4p, Z4q, Z4n, Z4l, Z4m, Z4o, Z4i, Z4j, Z4g, Z4t, S0, encI, encB, Z4k, Z2e, Z25, Z4h, Z2b, Z24, Z36, Z37, Z35, Z3s, Z3t, Z3r, Z3p, Z3q, idxT_Bs, c_caesuraref16_marked]; exact FzK_B _ _)
    · have h1' : (k == 1) = false := by simp [h1]
      by_cases h2 : k = 2
      · subst h2
        cases p <;> (simp [AWb_seq, Z0m, Z0n, Z0j, Z0k, Z0r, Z0l, Z0p, Z0q, Z0o, Z21, Z20, Z22, Z23, Z3d, Z3e, Z3a, vIdx, Z4x, Z4w, Z4y, vApp, Z4u, Z3u, Z11, Z10, Z0z, Z0x, Z0w, Z0y, Z17, Z16, Z15, Z13, Z12, Z14, Z2c, Z2d, Z2a, Z2n, Z31, Z30, Z07, Z08, Z06, Z01, Z02, Z00, Z04, Z05, Z03, Z1z, Z1y, Z46, Z48, Z47, Z45, Z1n, Z1o, Z1m, Z3n, Z3k, Z3m, Z3l, Z3o, Z1l, Z29, Z32, Z3x, Z1i, Z1j, Z1k, Z3v, Z3w, Z1g, Z28, Z1h, Z3i, Z3f, Z3h, Z3g, Z3j, Z41, Z40, Z0t, Z0u, Z0v, Z0s, Z1f, Z4c, Z4b, Z4d, Z4a, Z49, ex, Z43, Z42, ev_t, ev_c, Z27, Z26, Z4e, Z4f, Z2m, Z2l, Z2f, Z2j, Z2k, Z2g, Z2h, Z2i, putc, exBslice, lfill, exField, exIdxV, exIdxP, exBox, exAlloc, Z3b, Z3c, exStore, exFieldA, Z34, Z33, Z39, Z38, exPick, exUn, exBeq, exMM, exSeq, seqGo, exExt, binV, intOp, subc, Z4s, Z4r, Z4p, Z4q, Z4n, Z4l, Z4m, Z4o, Z4i, Z4j, Z4g, Z4t, S0, encI, encB, Z4k, Z2e, Z25, Z4h, Z2b, Z24, Z36, Z37, Z35, Z3s, Z3t, Z3r, Z3p, Z3q, idxT_Bs, c_caesuraref16_marked]; exact FzK_B _ _)
      · have h2' : (k == 2) = false := by simp [h2]
        simp [AWb_seq, Z0m, Z0n, Z0j, Z0k, Z0r, Z0l, Z0p, Z0q, Z0o, Z21, Z20, Z22, Z23, Z3d, Z3e, Z3a, vIdx, Z4x, Z4w, Z4y, vApp, Z4u, Z3u, Z11, Z10, Z0z, Z0x, Z0w, Z0y, Z17, Z16, Z15, Z13, Z12, Z14, Z2c, Z2d, Z2a, Z2n, Z31, Z30, Z07, Z08, Z06, Z01, Z02, Z00, Z04, Z05, Z03, Z1z, Z1y, Z46, Z48, Z47, Z45, Z1n, Z1o, Z1m, Z3n, Z3k, Z3m, Z3l, Z3o, Z1l, Z29, Z32, Z3x, Z1i, Z1j, Z1k, Z3v, Z3w, Z1g, Z28, Z1h, Z3i, Z3f, Z3h, Z3g, Z3j, Z41, Z40, Z0t, Z0u, Z0v, Z0s, Z1f, Z4c, Z4b, Z4d, Z4a, Z49, ex, Z43, Z42, ev_t, ev_c, Z27, Z26, Z4e, Z4f, Z2m, Z2l, Z2f, Z2j, Z2k, Z2g, Z2h, Z2i, putc, exBslice, lfill, exField, exIdxV, exIdxP, exBox, exAlloc, Z3b, Z3c, exStore, exFieldA, Z34, Z33, Z39, Z38, exPick, exUn, exBeq, exMM, exSeq, seqGo, exExt, binV, intOp, subc, Z4s, Z4r, Z4p, Z4q, Z4n, Z4l, Z4m, Z4o, Z4i, Z4j, Z4g, Z4t, S0, encI, encB, Z4k, Z2e, Z25, Z4h, Z2b, Z24, Z36, Z37, Z35, Z3s, Z3t, Z3r, Z3p, Z3q, idxT_Bs, c_caesuraref16_marked, h0, h1, h2, h0', h1', h2']
        exact FzK_B _ _
def prL (nb : Nat) (l : List Nat) : List (Int × Int) := l.map fun (q : Nat) => (((q / nb : Nat) : Int), ((q % nb : Nat) : Int))
theorem prL_len (nb : Nat) (l : List Nat) : (prL nb l).length = l.length := by simp [prL]
theorem prL_snoc (nb : Nat) (l : List Nat) (q : Nat) : prL nb (l ++ [q]) = prL nb l ++ [(((q / nb : Nat) : Int), ((q % nb : Nat) : Int))] := by simp [prL]
theorem prL_get {nb : Nat} {l : List Nat} {i : Nat} (h : i < l.length) (h' : i < (prL nb l).length) : (prL nb l)[i] = (((l[i] / nb : Nat) : Int), ((l[i] % nb : Nat) : Int)) := by simp [prL]
def mpA0 (most kind : Int) (i : Nat) (os : List (Int × Int)) (o : Bool) : List (Nat × AV) := [(2, encI most), (3, encI kind), (4, .ptr 0 0 0), (5, .ptr 1 0 0), (8, .ptr 2 0 0), (10, vV o 4 (os.map encPr)), (11, .ptr 3 0 0), (12, encI i)]
def mpG0 (a b : Det) (os : List (Int × Int)) (nx : List (List Int)) (en : List Bool) (o oN oE : Bool) : List (Nat × Option Blk) :=
  [(0, some (.arr 3 [encDet a])), (1, some (.arr 3 [encDet b])), (2, some (.arr 3 [zDet])), (3, some (.arr 3 [.agg [encI a.signs, vV oN 5 (nx.map encIs), vV oE 6 (en.map encB)]])), (4, vB o 2 (os.map encPr)), (5, vB oN 1 (nx.map encIs)), (6, vB oE 1 (en.map encB))]
abbrev MpS := (List (Int × Int) × List (List Int) × List Bool) × (Bool × Bool × Bool)
def mpI (D : Det) (c : List Int) (nb : Nat) (i : Nat) (s : MpS) : Prop := s.1 = (prL nb (lsF D c i).1, (lsF D c i).2) ∧ ∀ m, m < i → m < (lsF D c m).1.length
def mpA (most kind : Int) (i : Nat) (s : MpS) : List (Nat × AV) := mpA0 most kind i s.1.1 s.2.1
def mpG (a b : Det) (_ : Nat) (s : MpS) : List (Nat × Option Blk) := mpG0 a b s.1.1 s.1.2.1 s.1.2.2 s.2.1 s.2.2.1 s.2.2.2
abbrev MqS := (List (Int × Int) × List Int) × (Bool × Bool)
def mqI (D : Det) (c : List Int) (nb q : Nat) (one : List Nat) (k : Nat) (s : MqS) : Prop :=
  s.1.1 = prL nb (lrow c (fun s => stepD D q s) k one).1 ∧ s.1.2 = (lrow c (fun s => stepD D q s) k one).2
def mqA (most kind : Int) (i x y : Nat) (k : Nat) (s : MqS) : List (Nat × AV) := (13, encI x) :: (14, encI y) :: (15, vV s.2.2 7 (s.1.2.map encI)) :: (16, encI k) :: mpA0 most kind i s.1.1 s.2.1
def mqG (a b : Det) (nx : List (List Int)) (en : List Bool) (oN oE : Bool) (_ : Nat) (s : MqS) : List (Nat × Option Blk) := (7, vB s.2.2 1 (s.1.2.map encI)) :: mpG0 a b s.1.1 nx en s.2.1 oN oE
def mfI (one : List Nat) (t : Nat) (j : Nat) (_ : Unit) : Prop := ∀ m (h : m < one.length), m < j → one[m] ≠ t
def mfA (most kind : Int) (i x y k : Nat) (s : MqS) (j : Nat) (_ : Unit) : List (Nat × AV) := (17, .ptr 8 0 0) :: (18, encI j) :: mqA most kind i x y k s
def mfG (a b : Det) (nx : List (List Int)) (en : List Bool) (oN oE : Bool) (u v : Nat) (s : MqS) (_ : Nat) (_ : Unit) : List (Nat × Option Blk) := (8, some (.arr 2 [.agg [.v (.int .i64 u), .v (.int .i64 v)]])) :: mqG a b nx en oN oE 0 s
theorem pr_inj {nb p q : Nat} (h : p / nb = q / nb) (h2 : p % nb = q % nb) : p = q := by rw [← Nat.div_add_mod p nb, ← Nat.div_add_mod q nb, h, h2]
theorem made16_body {P : Program} {fr fm : FuncId} {a b : Det} {most kind : Int} {mk : Bool → Bool → Bool} (Ra : RightD a) (Rb : RightD b) (hsg : a.signs = b.signs) (hN : (a.next.length * b.next.length : Nat) < most) (hm : most ≤ 3000)
    (hra : PureC P fr [encDet a] (encB true)) (hrb : PureC P fr [encDet b] (encB true)) (hmk : ∀ p q, PureC P fm [encB p, encB q, encI kind] (encB (mk p q))) :
    AWb P 0 (c_caesuraref16_made fr fm) (RetC [.c 8 (some 3), .t 9] (FzK (encDE (prodD a b mk, 0)))) (argF [encDet a, encDet b, encI most, encI kind]) S0 := by
  have ea : (encDet a).cells = [encI a.signs, encIss a.next, encBs a.fin] := rfl
  have eb : (encDet b).cells = [encI b.signs, encIss b.next, encBs b.fin] := rfl
  have m1 : ¬ most < 1 := by omega
  have m2 : ¬ 3000 < most := by omega
  have hsb : (a.signs != b.signs) = false := by simp [hsg]
  have RD := big_ok (mk := mk) Ra Rb hsg (by omega)
  have hspec := lsS_spec RD (idcN (a.next.length * b.next.length))
  have hpD : prodD a b mk = ⟨a.signs, (lsS (bigD a b mk) (idcN (a.next.length * b.next.length))).2.1, (lsS (bigD a b mk) (idcN (a.next.length * b.next.length))).2.2⟩ := rfl
  have hDs : (bigD a b mk).signs = a.signs := rfl
  have hDl := big_len a b mk
  have hN1 : 1 ≤ a.next.length * b.next.length := Nat.mul_pos Ra.n1 Rb.n1
  have hs1 := Ra.s1
  have hs2 := Ra.s2
  have hfa := Ra.fin
  have hfb := Rb.fin
  simp [AWb_seq, Z0m, Z0n, Z0j, Z0k, Z0r, Z0l, Z0p, Z0q, Z0o, Z21, Z20, Z22, Z23, Z3d, Z3e, Z3a, vIdx, Z4x, Z4w, Z4y, vApp, Z4u, Z3u, Z11, Z10, Z0z, Z0x, Z0w, Z0y, Z17, Z16, Z15, Z13, Z12, Z14, Z2c, Z2d, Z2a, Z2n, Z31, Z30, Z07, Z08, Z06, Z01, Z02, Z00, Z04, Z05, Z03, Z1z, Z1y, Z46, Z48, Z47, Z45, Z1n, Z1o, Z1m, Z3n, Z3k, Z3m, Z3l, Z3o, Z1l, Z29, Z32, Z3x, Z1i, Z1j, Z1k, Z3v, Z3w, Z1g, Z28, Z1h, Z3i, Z3f, Z3h, Z3g, Z3j, Z41, Z40, Z0t, Z0u, Z0v, Z0s, Z1f, Z4c, Z4b, Z4d, Z4a, Z49, ex, Z43, Z42, ev_t, ev_c, Z27, Z26, Z4e, Z4f, Z2m, Z2l, Z2f, Z2j, Z2k, Z2g, Z2h, Z2i, putc, exBslice, lfill, exField, exIdxV, exIdxP, exBox, exAlloc, Z3b, Z3c, exStore, exFieldA, Z34, Z33, Z39, Z38, exPick, exUn, exBeq, exMM, exSeq, seqGo, exExt, binV, intOp, subc, Z4s, Z4r, Z4p, Z4q, Z4n, Z4l, Z4m, Z4o, Z4i, Z4j, Z4g, Z4t, S0, encI, encB, Z4k, Z2e, Z25, Z4h, Z2b, Z24, Z36, Z37, Z35, Z3s, Z3t, Z3r, Z3p, Z3q, idxT_Bs, c_caesuraref16_made]
  refine CallR.pure hra (cl_cons (closed_Det _) cl_nil) (Z2o _) ?_
  simp [AWb_seq, Z0m, Z0n, Z0j, Z0k, Z0r, Z0l, Z0p, Z0q, Z0o, Z21, Z20, Z22, Z23, Z3d, Z3e, Z3a, vIdx, Z4x, Z4w, Z4y, vApp, Z4u, Z3u, Z11, Z10, Z0z, Z0x, Z0w, Z0y, Z17, Z16, Z15, Z13, Z12, Z14, Z2c, Z2d, Z2a, Z2n, Z31, Z30, Z07, Z08, Z06, Z01, Z02, Z00, Z04, Z05, Z03, Z1z, Z1y, Z46, Z48, Z47, Z45, Z1n, Z1o, Z1m, Z3n, Z3k, Z3m, Z3l, Z3o, Z1l, Z29, Z32, Z3x, Z1i, Z1j, Z1k, Z3v, Z3w, Z1g, Z28, Z1h, Z3i, Z3f, Z3h, Z3g, Z3j, Z41, Z40, Z0t, Z0u, Z0v, Z0s, Z1f, Z4c, Z4b, Z4d, Z4a, Z49, ex, Z43, Z42, ev_t, ev_c, Z27, Z26, Z4e, Z4f, Z2m, Z2l, Z2f, Z2j, Z2k, Z2g, Z2h, Z2i, putc, exBslice, lfill, exField, exIdxV, exIdxP, exBox, exAlloc, Z3b, Z3c, exStore, exFieldA, Z34, Z33, Z39, Z38, exPick, exUn, exBeq, exMM, exSeq, seqGo, exExt, binV, intOp, subc, Z4s, Z4r, Z4p, Z4q, Z4n, Z4l, Z4m, Z4o, Z4i, Z4j, Z4g, Z4t, S0, encI, encB, Z4k, Z2e, Z25, Z4h, Z2b, Z24, Z36, Z37, Z35, Z3s, Z3t, Z3r, Z3p, Z3q, idxT_Bs]
  refine CallR.pure hrb (cl_cons (closed_Det _) cl_nil) (Z2o _) ?_
  simp [AWb_seq, Z0m, Z0n, Z0j, Z0k, Z0r, Z0l, Z0p, Z0q, Z0o, Z21, Z20, Z22, Z23, Z3d, Z3e, Z3a, vIdx, Z4x, Z4w, Z4y, vApp, Z4u, Z3u, Z11, Z10, Z0z, Z0x, Z0w, Z0y, Z17, Z16, Z15, Z13, Z12, Z14, Z2c, Z2d, Z2a, Z2n, Z31, Z30, Z07, Z08, Z06, Z01, Z02, Z00, Z04, Z05, Z03, Z1z, Z1y, Z46, Z48, Z47, Z45, Z1n, Z1o, Z1m, Z3n, Z3k, Z3m, Z3l, Z3o, Z1l, Z29, Z32, Z3x, Z1i, Z1j, Z1k, Z3v, Z3w, Z1g, Z28, Z1h, Z3i, Z3f, Z3h, Z3g, Z3j, Z41, Z40, Z0t, Z0u, Z0v, Z0s, Z1f, Z4c, Z4b, Z4d, Z4a, Z49, ex, Z43, Z42, ev_t, ev_c, Z27, Z26, Z4e, Z4f, Z2m, Z2l, Z2f, Z2j, Z2k, Z2g, Z2h, Z2i, putc, exBslice, lfill, exField, exIdxV, exIdxP, exBox, exAlloc, Z3b, Z3c, exStore, exFieldA, Z34, Z33, Z39, Z38, exPick, exUn, exBeq, exMM, exSeq, seqGo, exExt, binV, intOp, subc, Z4s, Z4r, Z4p, Z4q, Z4n, Z4l, Z4m, Z4o, Z4i, Z4j, Z4g, Z4t, S0, encI, encB, Z4k, Z2e, Z25, Z4h, Z2b, Z24, Z36, Z37, Z35, Z3s, Z3t, Z3r, Z3p, Z3q, idxT_Bs, hsb, m1, m2, exBuild, afill, c_mp_fin, c_mp_out]
  generalize hDD : bigD a b mk = D at *
  generalize hcc : idcN (a.next.length * b.next.length) = c at *
  have hcn : ∀ q, q < D.next.length → clsN c q = (q : Int) := fun q hq => by rw [← hcc]; exact idc_get (by omega)
  have hstp : ∀ (q : Nat) (s : Nat), q < D.next.length → (s : Int) < a.signs → stepD D q s = stepD a (q / b.next.length) s * b.next.length + stepD b (q % b.next.length) s := fun q s hq hs => by rw [← hDD]; exact big_step hsg (by omega) (by omega) hs
  have hdv : ∀ q, q < D.next.length → q / b.next.length < a.next.length ∧ q % b.next.length < b.next.length := fun q hq => big_div Rb (by omega)
  have hfin : ∀ q, q < D.next.length → finB D q = mk (finB a (q / b.next.length)) (finB b (q % b.next.length)) := fun q hq => by
    rw [← hDD]
    show ((List.range (a.next.length * b.next.length)).map fun q => mk (finB a (q / b.next.length)) (finB b (q % b.next.length))).getD _ false = _
    simp only [List.getD_eq_getElem?_getD, List.getElem?_map, List.getElem?_range (show q < a.next.length * b.next.length by omega), Option.map_some, Option.getD_some]
  generalize hnb : b.next.length = nb at *
  refine AWb_for (D.next.length + 1) (mpI D c nb) (mpA most kind) 10 (mpG a b) (([(0, 0)], [], []), (false, false, false)) ⟨by simp [prL, lsF], fun m hm => by omega⟩ ?_ ?_
  · refine Abs.of [(0, 0), (1, 1), (2, 2), (3, 33)] [] (by omega) ⟨by simp, by simp⟩ ?_ ?_
    · simp [RenL_snoc, RenL.cl, RenV.cl, Z2r, Z2o, Z2s, Z2t, Z2p, Z2v, Z2u, Z2q, Z2w, Z2x, Z1d, Z1c, Z1b, Z19, Z18, Z1a, Z1e, Z52, Z4v, Z4z, Z3y, Z51, Z50, Z3z, Z1p, Z1q, Z1x, Z1v, Z1w, Z1u, Z1t, Z1s, Z1r, Z44, Z43, Z42, Z4e, Z4f, Z22, Z23, Z3d, Z3e, Z27, Z26, vV_t, vV_f, vB_t, vB_f, encI, encB, mpG, mpG0, zDet, closed_Det]
    · simp [RenL_snoc, RenL.cl, RenV.cl, Z2r, Z2o, Z2s, Z2t, Z2p, Z2v, Z2u, Z2q, Z2w, Z2x, Z1d, Z1c, Z1b, Z19, Z18, Z1a, Z1e, Z52, Z4v, Z4z, Z3y, Z51, Z50, Z3z, Z1p, Z1q, Z1x, Z1v, Z1w, Z1u, Z1t, Z1s, Z1r, Z44, Z43, Z42, Z4e, Z4f, Z22, Z23, Z3d, Z3e, Z27, Z26, vV_t, vV_f, vB_t, vB_f, encI, encB, mpA, mpA0, encPr]
      exact .cl (.sl _ _ (cl_cons (.agg _ (cl_cons (.v _) (cl_cons (.v _) cl_nil))) cl_nil))
  · rintro i ⟨⟨os, nx, en⟩, oo, oN, oE⟩ hi ⟨heq, hmin⟩
    simp only [Prod.mk.injEq] at heq
    obtain ⟨ho, hne⟩ := heq
    have ok := lst_ok RD c i hmin
    have hle := ok.le
    have hlen := ok.len
    have hnd := ok.nd
    generalize hst : lsF D c i = st at *
    obtain ⟨one, nx', en'⟩ := st
    simp only [Prod.mk.injEq] at ho hne hle hlen hnd
    obtain ⟨rfl, rfl⟩ := hne
    have hol : os.length = one.length := by rw [ho, prL_len]
    by_cases hlt : i < one.length
    · obtain ⟨q, hq⟩ : ∃ q, one[i]? = some q := ⟨_, List.getElem?_eq_getElem hlt⟩
      have hqe : one[i] = q := by rw [List.getElem?_eq_getElem hlt] at hq; exact Option.some.inj hq
      have hqn : q < D.next.length := by rw [← hqe]; exact ok.lt _ (List.getElem_mem hlt)
      obtain ⟨hxn, hyn⟩ := hdv q hqn
      have hoi : i < os.length := by omega
      have hoI : (i : Int) < os.length := by omega
      have hoe : os[i] = (((q / nb : Nat) : Int), ((q % nb : Nat) : Int)) := by
        subst ho
        rw [prL_get hlt, hqe]
      have hnx : lsF D c (i + 1) = ((lrow c (fun s => stepD D q s) D.signs.toNat one).1, nx ++ [(lrow c (fun s => stepD D q s) D.signs.toNat one).2], en ++ [finB D q]) := by
        simp only [lsF, hst, lnx, hq]
      have hst2 := fun (s : Nat) (hs : (s : Int) < a.signs) => hstp q s hqn hs
      have hfq := hfin q hqn
      generalize hx : q / nb = x at *
      generalize hy : q % nb = y at *
      simp [AWb_seq, Z0m, Z0n, Z0j, Z0k, Z0r, Z0l, Z0p, Z0q, Z0o, Z21, Z20, Z22, Z23, Z3d, Z3e, Z3a, vIdx, Z4x, Z4w, Z4y, vApp, Z4u, Z3u, Z11, Z10, Z0z, Z0x, Z0w, Z0y, Z17, Z16, Z15, Z13, Z12, Z14, Z2c, Z2d, Z2a, Z2n, Z31, Z30, Z07, Z08, Z06, Z01, Z02, Z00, Z04, Z05, Z03, Z1z, Z1y, Z46, Z48, Z47, Z45, Z1n, Z1o, Z1m, Z3n, Z3k, Z3m, Z3l, Z3o, Z1l, Z29, Z32, Z3x, Z1i, Z1j, Z1k, Z3v, Z3w, Z1g, Z28, Z1h, Z3i, Z3f, Z3h, Z3g, Z3j, Z41, Z40, Z0t, Z0u, Z0v, Z0s, Z1f, Z4c, Z4b, Z4d, Z4a, Z49, ex, Z43, Z42, ev_t, ev_c, Z27, Z26, Z4e, Z4f, Z2m, Z2l, Z2f, Z2j, Z2k, Z2g, Z2h, Z2i, putc, exBslice, lfill, exField, exIdxV, exBox, exAlloc, Z3b, Z3c, exStore, exFieldA, Z34, Z33, Z39, Z38, exPick, exUn, exBeq, exMM, exExt, binV, intOp, subc, Z4s, Z4r, Z4p, Z4q, Z4n, Z4l, Z4m, Z4o, Z4i, Z4j, Z4g, Z4t, S0, encI, encB, Z4k, Z2e, Z25, Z4h, Z2b, Z24, Z36, Z37, Z35, Z3s, Z3t, Z3r, Z3p, Z3q, idxT_Bs, Cel_Pr, vIdxP, vQ0, vQ1, vLd2, vQ0T, vQ1T, vLd2T, seqNe, seqNe2, solid_Pr, cells_Pr, mpA, mpA0, mpG, mpG0, hoI, hoi, hoe, c_mp_row]
      refine AWb_for a.signs.toNat (mqI D c nb q one) (mqA most kind i x y) 10 (mqG a b nx en oN oE) ((os, []), (oo, false)) ⟨ho, rfl⟩ ?_ ?_
      · refine Abs.of [(0, 0), (1, 1), (2, 2), (3, 3), (4, 4), (5, 5), (6, 6)] [] (by omega) ⟨by simp, by simp⟩ ?_ ?_
        · simp [RenL_snoc, RenL.cl, RenV.cl, Z2r, Z2o, Z2s, Z2t, Z2p, Z2v, Z2u, Z2q, Z2w, Z2x, Z1d, Z1c, Z1b, Z19, Z18, Z1a, Z1e, Z52, Z4v, Z4z, Z3y, Z51, Z50, Z3z, Z1p, Z1q, Z1x, Z1v, Z1w, Z1u, Z1t, Z1s, Z1r, Z44, Z43, Z42, Z4e, Z4f, Z22, Z23, Z3d, Z3e, Z27, Z26, vV_t, vV_f, vB_t, vB_f, encI, encB, mqG, mpG0, zDet, closed_Det, Cls_Pr]
        · simp [RenL_snoc, RenL.cl, RenV.cl, Z2r, Z2o, Z2s, Z2t, Z2p, Z2v, Z2u, Z2q, Z2w, Z2x, Z1d, Z1c, Z1b, Z19, Z18, Z1a, Z1e, Z52, Z4v, Z4z, Z3y, Z51, Z50, Z3z, Z1p, Z1q, Z1x, Z1v, Z1w, Z1u, Z1t, Z1s, Z1r, Z44, Z43, Z42, Z4e, Z4f, Z22, Z23, Z3d, Z3e, Z27, Z26, vV_t, vV_f, vB_t, vB_f, encI, encB, mqA, mpA0, Cls_Pr]
      · rintro k ⟨⟨os1, rw_⟩, o1, oR⟩ hkn ⟨h1, h2⟩
        simp only at h1 h2
        have hro := lrow_ok (c := c) (t := fun s => stepD D q s) hnd k
        have hlr : lrow c (fun s => stepD D q s) (k + 1) one = ((lnum c (lrow c (fun s => stepD D q s) k one).1 (stepD D q k)).1, (lrow c (fun s => stepD D q s) k one).2 ++ [((lnum c (lrow c (fun s => stepD D q s) k one).1 (stepD D q k)).2 : Int)]) := rfl
        generalize hp : lrow c (fun s => stepD D q s) k one = p at *
        obtain ⟨one1, r⟩ := p
        simp only at h1 h2 hlr hro
        have hol1 : os1.length = one1.length := by rw [h1, prL_len]
        have hlt1 : ∀ x ∈ one1, x < D.next.length := fun x hx => by
          rcases hro.new x hx with h | ⟨s, hs, rfl⟩
          · exact ok.lt x h
          · exact step_lt RD hqn (by omega) (by omega)
        have hle1 : one1.length ≤ D.next.length := nodup_le _ _ ((List.pairwise_map.mp hro.nd).imp (fun h e => h (congrArg _ e))) hlt1
        have hrlen := hro.len
        by_cases hkl : (k : Int) < a.signs
        · have hst3 := hst2 k hkl
          obtain ⟨hja, hsa1, hsa2⟩ := step_at Ra hxn (s := (k : Int)) (by omega) hkl
          obtain ⟨hjb, hsb1, hsb2⟩ := step_at Rb (by rw [hnb]; exact hyn) (s := (k : Int)) (by omega) (by rw [← hsg]; exact hkl)
          have hja' : k < (a.next[x]).length := hja
          have hyn' : y < b.next.length := by omega
          have hjb' : k < (b.next[y]).length := hjb
          have ea2 : (a.next[x])[k] = (stepD a x k : Int) := hsa1
          have eb2 : (b.next[y])[k] = (stepD b y k : Int) := hsb1
          have htn : stepD D q k < D.next.length := step_lt RD hqn (by omega) (by omega)
          have htd : stepD D q k / nb = stepD a x k ∧ stepD D q k % nb = stepD b y k := by
            rw [hst3]; exact pair_div (by omega)
          generalize stepD D q k = t at *
          generalize stepD a x k = u at *
          generalize stepD b y k = v at *
          obtain ⟨htu, htv⟩ := htd
          have hkn' : k < a.signs.toNat := by omega
          have hct := hcn t htn
          have hok : appOk 16 os1.length 1 := by unfold appOk; omega
          have hokr : appOk 8 rw_.length 1 := by rw [h2]; unfold appOk; omega
          simp [AWb_seq, Z0m, Z0n, Z0j, Z0k, Z0r, Z0l, Z0p, Z0q, Z0o, Z21, Z20, Z22, Z23, Z3d, Z3e, Z3a, vIdx, Z4x, Z4w, Z4y, vApp, Z4u, Z3u, Z11, Z10, Z0z, Z0x, Z0w, Z0y, Z17, Z16, Z15, Z13, Z12, Z14, Z2c, Z2d, Z2a, Z2n, Z31, Z30, Z07, Z08, Z06, Z01, Z02, Z00, Z04, Z05, Z03, Z1z, Z1y, Z46, Z48, Z47, Z45, Z1n, Z1o, Z1m, Z3n, Z3k, Z3m, Z3l, Z3o, Z1l, Z29, Z32, Z3x, Z1i, Z1j, Z1k, Z3v, Z3w, Z1g, Z28, Z1h, Z3i, Z3f, Z3h, Z3g, Z3j, Z41, Z40, Z0t, Z0u, Z0v, Z0s, Z1f, Z4c, Z4b, Z4d, Z4a, Z49, ex, Z43, Z42, ev_t, ev_c, Z27, Z26, Z4e, Z4f, Z2m, Z2l, Z2f, Z2j, Z2k, Z2g, Z2h, Z2i, putc, exBslice, lfill, exField, exIdxV, exBox, exAlloc, Z3b, Z3c, exStore, exFieldA, Z34, Z33, Z39, Z38, exPick, exUn, exBeq, exMM, exExt, binV, intOp, subc, Z4s, Z4r, Z4p, Z4q, Z4n, Z4l, Z4m, Z4o, Z4i, Z4j, Z4g, Z4t, S0, encI, encB, Z4k, Z2e, Z25, Z4h, Z2b, Z24, Z36, Z37, Z35, Z3s, Z3t, Z3r, Z3p, Z3q, idxT_Bs, Cel_Pr, vIdxP, vQ0, vQ1, vLd2, vQ0T, vQ1T, vLd2T, seqNe, seqNe2, solid_Pr, cells_Pr, mqA, mpA0, mqG, mpG0, hkl, hxn, hyn', hja', hjb', ea2, eb2, exBuild, afill, c_mp_find]
          refine AWb_for one1.length (mfI one1 t) (mfA most kind i x y k ((os1, rw_), (o1, oR))) 10 (mfG a b nx en oN oE u v ((os1, rw_), (o1, oR))) () (fun m h hm => by omega) ?_ ?_
          · refine Abs.of [(0, 0), (1, 1), (2, 2), (3, 3), (4, 4), (5, 5), (6, 6), (7, 7), (8, 31)] [] (by omega) ⟨by simp, by simp⟩ ?_ ?_
            · simp [RenL_snoc, RenL.cl, RenV.cl, Z2r, Z2o, Z2s, Z2t, Z2p, Z2v, Z2u, Z2q, Z2w, Z2x, Z1d, Z1c, Z1b, Z19, Z18, Z1a, Z1e, Z52, Z4v, Z4z, Z3y, Z51, Z50, Z3z, Z1p, Z1q, Z1x, Z1v, Z1w, Z1u, Z1t, Z1s, Z1r, Z44, Z43, Z42, Z4e, Z4f, Z22, Z23, Z3d, Z3e, Z27, Z26, vV_t, vV_f, vB_t, vB_f, encI, encB, mfG, mqG, mpG0, zDet, closed_Det, Cls_Pr]
            · simp [RenL_snoc, RenL.cl, RenV.cl, Z2r, Z2o, Z2s, Z2t, Z2p, Z2v, Z2u, Z2q, Z2w, Z2x, Z1d, Z1c, Z1b, Z19, Z18, Z1a, Z1e, Z52, Z4v, Z4z, Z3y, Z51, Z50, Z3z, Z1p, Z1q, Z1x, Z1v, Z1w, Z1u, Z1t, Z1s, Z1r, Z44, Z43, Z42, Z4e, Z4f, Z22, Z23, Z3d, Z3e, Z27, Z26, vV_t, vV_f, vB_t, vB_f, encI, encB, mfA, mqA, mpA0, Cls_Pr]
          · rintro j _ hj1 hnot
            have hin : t ∈ one1 ↔ clsN c t ∈ one1.map (clsN c) := by
              constructor
              · exact fun h => List.mem_map_of_mem h
              · intro h
                obtain ⟨z, hz, hz2⟩ := List.mem_map.mp h
                rw [hcn z (hlt1 z hz), hct] at hz2
                have : z = t := by omega
                rwa [this] at hz
            by_cases hjl : j < one1.length
            · have hjI : (j : Int) < os1.length := by omega
              have hjo : j < os1.length := by omega
              have hje : os1[j] = (((one1[j] / nb : Nat) : Int), ((one1[j] % nb : Nat) : Int)) := by
                subst h1
                rw [prL_get hjl]
              by_cases he : one1[j] = t
              · have hne2 : decide (os1[j] ≠ ((u : Int), (v : Int))) = false := by rw [hje, he, htu, htv]; simp
                have hji : (one1.map (clsN c)).idxOf (clsN c t) = j := idxOf_atI (by simpa using hjl) (by simp [he]) (fun m hm => by
                  have hml : m < one1.length := by omega
                  have := hnot m hml hm
                  simp only [List.getElem_map]
                  rw [hcn _ (hlt1 _ (List.getElem_mem hml)), hct]
                  omega)
                have hln : lnum c one1 t = (one1, j) := by rw [lnum, if_pos (hin.mp (by rw [← he]; exact List.getElem_mem hjl)), hji]
                rw [hln] at hlr
                have hjne : ((j : Int) == (os1.length : Int)) = false := by simp; omega
                simp [AWb_seq, Z0m, Z0n, Z0j, Z0k, Z0r, Z0l, Z0p, Z0q, Z0o, Z21, Z20, Z22, Z23, Z3d, Z3e, Z3a, vIdx, Z4x, Z4w, Z4y, vApp, Z4u, Z3u, Z11, Z10, Z0z, Z0x, Z0w, Z0y, Z17, Z16, Z15, Z13, Z12, Z14, Z2c, Z2d, Z2a, Z2n, Z31, Z30, Z07, Z08, Z06, Z01, Z02, Z00, Z04, Z05, Z03, Z1z, Z1y, Z46, Z48, Z47, Z45, Z1n, Z1o, Z1m, Z3n, Z3k, Z3m, Z3l, Z3o, Z1l, Z29, Z32, Z3x, Z1i, Z1j, Z1k, Z3v, Z3w, Z1g, Z28, Z1h, Z3i, Z3f, Z3h, Z3g, Z3j, Z41, Z40, Z0t, Z0u, Z0v, Z0s, Z1f, Z4c, Z4b, Z4d, Z4a, Z49, ex, Z43, Z42, ev_t, ev_c, Z27, Z26, Z4e, Z4f, Z2m, Z2l, Z2f, Z2j, Z2k, Z2g, Z2h, Z2i, putc, exBslice, lfill, exField, exIdxV, exBox, exAlloc, Z3b, Z3c, exStore, exFieldA, Z34, Z33, Z39, Z38, exPick, exUn, exBeq, exMM, exExt, binV, intOp, subc, Z4s, Z4r, Z4p, Z4q, Z4n, Z4l, Z4m, Z4o, Z4i, Z4j, Z4g, Z4t, S0, encI, encB, Z4k, Z2e, Z25, Z4h, Z2b, Z24, Z36, Z37, Z35, Z3s, Z3t, Z3r, Z3p, Z3q, idxT_Bs, Cel_Pr, vIdxP, vQ0, vQ1, vLd2, vQ0T, vQ1T, vLd2T, seqNe, seqNe2, solid_Pr, cells_Pr, mfA, mqA, mpA0, mfG, mqG, mpG0, hjI, hjo, hne2, hjne, hokr]
                rw [wrap_in _ (by omega)]
                refine ⟨hkn', ((os1, rw_ ++ [(j : Int)]), (o1, true)), ⟨by rw [hlr]; exact h1, by rw [hlr]; simp only; rw [h2]⟩, Abs.of [(0, 0), (1, 1), (2, 2), (3, 3), (4, 4), (5, 5), (6, 6), (7, 29)] [] (by omega) ⟨by simp, by simp⟩ ?_ ?_⟩
                · simp [RenL_snoc, RenL.cl, RenV.cl, Z2r, Z2o, Z2s, Z2t, Z2p, Z2v, Z2u, Z2q, Z2w, Z2x, Z1d, Z1c, Z1b, Z19, Z18, Z1a, Z1e, Z52, Z4v, Z4z, Z3y, Z51, Z50, Z3z, Z1p, Z1q, Z1x, Z1v, Z1w, Z1u, Z1t, Z1s, Z1r, Z44, Z43, Z42, Z4e, Z4f, Z22, Z23, Z3d, Z3e, Z27, Z26, vV_t, vV_f, vB_t, vB_f, encI, encB, mqG, mpG0, zDet, closed_Det, Cls_Pr]
                · simp [RenL_snoc, RenL.cl, RenV.cl, Z2r, Z2o, Z2s, Z2t, Z2p, Z2v, Z2u, Z2q, Z2w, Z2x, Z1d, Z1c, Z1b, Z19, Z18, Z1a, Z1e, Z52, Z4v, Z4z, Z3y, Z51, Z50, Z3z, Z1p, Z1q, Z1x, Z1v, Z1w, Z1u, Z1t, Z1s, Z1r, Z44, Z43, Z42, Z4e, Z4f, Z22, Z23, Z3d, Z3e, Z27, Z26, vV_t, vV_f, vB_t, vB_f, encI, encB, mqA, mpA0, Cls_Pr]
              · have hne2 : decide (os1[j] ≠ ((u : Int), (v : Int))) = true := by
                  refine decide_eq_true fun e => he ?_
                  rw [hje, Prod.mk.injEq] at e
                  exact pr_inj (nb := nb) (by omega) (by omega)
                simp [AWb_seq, Z0m, Z0n, Z0j, Z0k, Z0r, Z0l, Z0p, Z0q, Z0o, Z21, Z20, Z22, Z23, Z3d, Z3e, Z3a, vIdx, Z4x, Z4w, Z4y, vApp, Z4u, Z3u, Z11, Z10, Z0z, Z0x, Z0w, Z0y, Z17, Z16, Z15, Z13, Z12, Z14, Z2c, Z2d, Z2a, Z2n, Z31, Z30, Z07, Z08, Z06, Z01, Z02, Z00, Z04, Z05, Z03, Z1z, Z1y, Z46, Z48, Z47, Z45, Z1n, Z1o, Z1m, Z3n, Z3k, Z3m, Z3l, Z3o, Z1l, Z29, Z32, Z3x, Z1i, Z1j, Z1k, Z3v, Z3w, Z1g, Z28, Z1h, Z3i, Z3f, Z3h, Z3g, Z3j, Z41, Z40, Z0t, Z0u, Z0v, Z0s, Z1f, Z4c, Z4b, Z4d, Z4a, Z49, ex, Z43, Z42, ev_t, ev_c, Z27, Z26, Z4e, Z4f, Z2m, Z2l, Z2f, Z2j, Z2k, Z2g, Z2h, Z2i, putc, exBslice, lfill, exField, exIdxV, exBox, exAlloc, Z3b, Z3c, exStore, exFieldA, Z34, Z33, Z39, Z38, exPick, exUn, exBeq, exMM, exExt, binV, intOp, subc, Z4s, Z4r, Z4p, Z4q, Z4n, Z4l, Z4m, Z4o, Z4i, Z4j, Z4g, Z4t, S0, encI, encB, Z4k, Z2e, Z25, Z4h, Z2b, Z24, Z36, Z37, Z35, Z3s, Z3t, Z3r, Z3p, Z3q, idxT_Bs, Cel_Pr, vIdxP, vQ0, vQ1, vLd2, vQ0T, vQ1T, vLd2T, seqNe, seqNe2, solid_Pr, cells_Pr, mfA, mqA, mpA0, mfG, mqG, mpG0, hjI, hjo, hne2]
                rw [wrap_in _ (by omega)]
                refine ⟨hjl, (), fun m h hm => ?_, Abs.of [(0, 0), (1, 1), (2, 2), (3, 3), (4, 4), (5, 5), (6, 6), (7, 7), (8, 8)] [] (by omega) ⟨by simp, by simp⟩ ?_ ?_⟩
                · by_cases hmj : m = j
                  · subst hmj; exact he
                  · exact hnot m h (by omega)
                · simp [RenL_snoc, RenL.cl, RenV.cl, Z2r, Z2o, Z2s, Z2t, Z2p, Z2v, Z2u, Z2q, Z2w, Z2x, Z1d, Z1c, Z1b, Z19, Z18, Z1a, Z1e, Z52, Z4v, Z4z, Z3y, Z51, Z50, Z3z, Z1p, Z1q, Z1x, Z1v, Z1w, Z1u, Z1t, Z1s, Z1r, Z44, Z43, Z42, Z4e, Z4f, Z22, Z23, Z3d, Z3e, Z27, Z26, vV_t, vV_f, vB_t, vB_f, encI, encB, mfG, mqG, mpG0, zDet, closed_Det, Cls_Pr]
                · simp [RenL_snoc, RenL.cl, RenV.cl, Z2r, Z2o, Z2s, Z2t, Z2p, Z2v, Z2u, Z2q, Z2w, Z2x, Z1d, Z1c, Z1b, Z19, Z18, Z1a, Z1e, Z52, Z4v, Z4z, Z3y, Z51, Z50, Z3z, Z1p, Z1q, Z1x, Z1v, Z1w, Z1u, Z1t, Z1s, Z1r, Z44, Z43, Z42, Z4e, Z4f, Z22, Z23, Z3d, Z3e, Z27, Z26, vV_t, vV_f, vB_t, vB_f, encI, encB, mfA, mqA, mpA0, Cls_Pr]
            · have hje : j = one1.length := by omega
              have hnin : clsN c t ∉ one1.map (clsN c) := by
                rw [← hin]
                intro hm
                obtain ⟨m, hm1, hm2⟩ := List.mem_iff_getElem.mp hm
                exact hnot m hm1 (by omega) hm2
              have hln : lnum c one1 t = (one1 ++ [t], one1.length) := by rw [lnum, if_neg hnin]
              rw [hln] at hlr
              have hjI : (j : Int) = os1.length := by omega
              have hmo : ((os1.length : Int) == most) = false := by simp; omega
              simp [AWb_seq, Z0m, Z0n, Z0j, Z0k, Z0r, Z0l, Z0p, Z0q, Z0o, Z21, Z20, Z22, Z23, Z3d, Z3e, Z3a, vIdx, Z4x, Z4w, Z4y, vApp, Z4u, Z3u, Z11, Z10, Z0z, Z0x, Z0w, Z0y, Z17, Z16, Z15, Z13, Z12, Z14, Z2c, Z2d, Z2a, Z2n, Z31, Z30, Z07, Z08, Z06, Z01, Z02, Z00, Z04, Z05, Z03, Z1z, Z1y, Z46, Z48, Z47, Z45, Z1n, Z1o, Z1m, Z3n, Z3k, Z3m, Z3l, Z3o, Z1l, Z29, Z32, Z3x, Z1i, Z1j, Z1k, Z3v, Z3w, Z1g, Z28, Z1h, Z3i, Z3f, Z3h, Z3g, Z3j, Z41, Z40, Z0t, Z0u, Z0v, Z0s, Z1f, Z4c, Z4b, Z4d, Z4a, Z49, ex, Z43, Z42, ev_t, ev_c, Z27, Z26, Z4e, Z4f, Z2m, Z2l, Z2f, Z2j, Z2k, Z2g, Z2h, Z2i, putc, exBslice, lfill, exField, exIdxV, exBox, exAlloc, Z3b, Z3c, exStore, exFieldA, Z34, Z33, Z39, Z38, exPick, exUn, exBeq, exMM, exExt, binV, intOp, subc, Z4s, Z4r, Z4p, Z4q, Z4n, Z4l, Z4m, Z4o, Z4i, Z4j, Z4g, Z4t, S0, encI, encB, Z4k, Z2e, Z25, Z4h, Z2b, Z24, Z36, Z37, Z35, Z3s, Z3t, Z3r, Z3p, Z3q, idxT_Bs, Cel_Pr, vIdxP, vQ0, vQ1, vLd2, vQ0T, vQ1T, vLd2T, seqNe, seqNe2, solid_Pr, cells_Pr, mfA, mqA, mpA0, mfG, mqG, mpG0, hjI, hok, hokr, hmo]
              rw [wrap_in _ (by omega)]
              have hcp : Closed (.agg [.v (.int .i64 u), .v (.int .i64 v)]) := closed_Pr (u, v)
              refine ⟨hkn', ((os1 ++ [((u : Int), (v : Int))], rw_ ++ [(os1.length : Int)]), (true, true)), ⟨by rw [hlr]; simp only; rw [prL_snoc, h1, htu, htv], by rw [hlr]; simp only; rw [h2, hol1]⟩, Abs.of [(0, 0), (1, 1), (2, 2), (3, 3), (4, 32), (5, 5), (6, 6), (7, 37)] [] (by omega) ⟨by simp, by simp⟩ ?_ ?_⟩
              · simp [RenL_snoc, RenL.cl, RenV.cl, Z2r, Z2o, Z2s, Z2t, Z2p, Z2v, Z2u, Z2q, Z2w, Z2x, Z1d, Z1c, Z1b, Z19, Z18, Z1a, Z1e, Z52, Z4v, Z4z, Z3y, Z51, Z50, Z3z, Z1p, Z1q, Z1x, Z1v, Z1w, Z1u, Z1t, Z1s, Z1r, Z44, Z43, Z42, Z4e, Z4f, Z22, Z23, Z3d, Z3e, Z27, Z26, vV_t, vV_f, vB_t, vB_f, encI, encB, mqG, mpG0, zDet, closed_Det, Cls_Pr, encPr, hcp]
              · simp [RenL_snoc, RenL.cl, RenV.cl, Z2r, Z2o, Z2s, Z2t, Z2p, Z2v, Z2u, Z2q, Z2w, Z2x, Z1d, Z1c, Z1b, Z19, Z18, Z1a, Z1e, Z52, Z4v, Z4z, Z3y, Z51, Z50, Z3z, Z1p, Z1q, Z1x, Z1v, Z1w, Z1u, Z1t, Z1s, Z1r, Z44, Z43, Z42, Z4e, Z4f, Z22, Z23, Z3d, Z3e, Z27, Z26, vV_t, vV_f, vB_t, vB_f, encI, encB, mqA, mpA0, Cls_Pr, encPr]
        · have hke : k = D.signs.toNat := by omega
          have hokx : appOk 24 nx.length 1 := by have := ok.nx; simp only at this; unfold appOk; omega
          have hoke : appOk 1 en.length 1 := by have := ok.en; simp only at this; unfold appOk; omega
          have hxf : x < a.fin.length := by omega
          have hyf : y < b.fin.length := by omega
          have e1 : a.fin[x] = finB a x := by rw [finB, List.getD_eq_getElem?_getD, List.getElem?_eq_getElem hxf]; rfl
          have e2 : b.fin[y] = finB b y := by rw [finB, List.getD_eq_getElem?_getD, List.getElem?_eq_getElem hyf]; rfl
          have hx3 := hmk (finB a x) (finB b y)
          rw [← hfq] at hx3
          have D3 := fun n' g' => CallD.cd (S := ⟨n', g'⟩) hx3 (cl_cons (Z2o _) (cl_cons (Z2o _) (cl_cons (Z2r _) cl_nil))) (Z2o _)
          simp only [encB, encI] at D3
          simp [AWb_seq, Z0m, Z0n, Z0j, Z0k, Z0r, Z0l, Z0p, Z0q, Z0o, Z21, Z20, Z22, Z23, Z3d, Z3e, Z3a, vIdx, Z4x, Z4w, Z4y, vApp, Z4u, Z3u, Z11, Z10, Z0z, Z0x, Z0w, Z0y, Z17, Z16, Z15, Z13, Z12, Z14, Z2c, Z2d, Z2a, Z2n, Z31, Z30, Z07, Z08, Z06, Z01, Z02, Z00, Z04, Z05, Z03, Z1z, Z1y, Z46, Z48, Z47, Z45, Z1n, Z1o, Z1m, Z3n, Z3k, Z3m, Z3l, Z3o, Z1l, Z29, Z32, Z3x, Z1i, Z1j, Z1k, Z3v, Z3w, Z1g, Z28, Z1h, Z3i, Z3f, Z3h, Z3g, Z3j, Z41, Z40, Z0t, Z0u, Z0v, Z0s, Z1f, Z4c, Z4b, Z4d, Z4a, Z49, ex, Z43, Z42, ev_t, ev_c, Z27, Z26, Z4e, Z4f, Z2m, Z2l, Z2f, Z2j, Z2k, Z2g, Z2h, Z2i, putc, exBslice, lfill, exField, exIdxV, exBox, exAlloc, Z3b, Z3c, exStore, exFieldA, Z34, Z33, Z39, Z38, exPick, exUn, exBeq, exMM, exExt, binV, intOp, subc, Z4s, Z4r, Z4p, Z4q, Z4n, Z4l, Z4m, Z4o, Z4i, Z4j, Z4g, Z4t, S0, encI, encB, Z4k, Z2e, Z25, Z4h, Z2b, Z24, Z36, Z37, Z35, Z3s, Z3t, Z3r, Z3p, Z3q, idxT_Bs, Cel_Pr, vIdxP, vQ0, vQ1, vLd2, vQ0T, vQ1T, vLd2T, seqNe, seqNe2, solid_Pr, cells_Pr, mqA, mpA0, mqG, mpG0, hkl, hokx, hoke, hxf, hyf, e1, e2, c_mp_add]
          refine ⟨by rintro j (⟨_, rfl⟩ | rfl) <;> simp, by rintro j (⟨_, rfl⟩ | rfl) <;> simp, by rintro j (⟨_, rfl⟩ | rfl) <;> simp, _, _, D3 _ _, ?_⟩
          simp [AWb_seq, Z0m, Z0n, Z0j, Z0k, Z0r, Z0l, Z0p, Z0q, Z0o, Z21, Z20, Z22, Z23, Z3d, Z3e, Z3a, vIdx, Z4x, Z4w, Z4y, vApp, Z4u, Z3u, Z11, Z10, Z0z, Z0x, Z0w, Z0y, Z17, Z16, Z15, Z13, Z12, Z14, Z2c, Z2d, Z2a, Z2n, Z31, Z30, Z07, Z08, Z06, Z01, Z02, Z00, Z04, Z05, Z03, Z1z, Z1y, Z46, Z48, Z47, Z45, Z1n, Z1o, Z1m, Z3n, Z3k, Z3m, Z3l, Z3o, Z1l, Z29, Z32, Z3x, Z1i, Z1j, Z1k, Z3v, Z3w, Z1g, Z28, Z1h, Z3i, Z3f, Z3h, Z3g, Z3j, Z41, Z40, Z0t, Z0u, Z0v, Z0s, Z1f, Z4c, Z4b, Z4d, Z4a, Z49, ex, Z43, Z42, ev_t, ev_c, Z27, Z26, Z4e, Z4f, Z2m, Z2l, Z2f, Z2j, Z2k, Z2g, Z2h, Z2i, putc, exBslice, lfill, exField, exIdxV, exBox, exAlloc, Z3b, Z3c, exStore, exFieldA, Z34, Z33, Z39, Z38, exPick, exUn, exBeq, exMM, exExt, binV, intOp, subc, Z4s, Z4r, Z4p, Z4q, Z4n, Z4l, Z4m, Z4o, Z4i, Z4j, Z4g, Z4t, S0, encI, encB, Z4k, Z2e, Z25, Z4h, Z2b, Z24, Z36, Z37, Z35, Z3s, Z3t, Z3r, Z3p, Z3q, idxT_Bs, Cel_Pr, vIdxP, vQ0, vQ1, vLd2, vQ0T, vQ1T, vLd2T, seqNe, seqNe2, solid_Pr, cells_Pr, hokx, hoke]
          rw [wrap_in _ (by omega)]
          refine ⟨by omega, ((os1, nx ++ [rw_], en ++ [finB D q]), (o1, true, true)), ⟨?_, fun m hm => ?_⟩, Abs.of [(0, 0), (1, 1), (2, 2), (3, 3), (4, 4), (5, 18), (6, 34)] [7] (by omega) ⟨by simp, by simp⟩ ?_ ?_⟩
          · simp only; rw [hnx, ← hke, hp, h1, h2]
          · by_cases hmi : m = i
            · subst hmi; rw [hst]; exact hlt
            · exact hmin m (by omega)
          · simp [RenL_snoc, RenL.cl, RenV.cl, Z2r, Z2o, Z2s, Z2t, Z2p, Z2v, Z2u, Z2q, Z2w, Z2x, Z1d, Z1c, Z1b, Z19, Z18, Z1a, Z1e, Z52, Z4v, Z4z, Z3y, Z51, Z50, Z3z, Z1p, Z1q, Z1x, Z1v, Z1w, Z1u, Z1t, Z1s, Z1r, Z44, Z43, Z42, Z4e, Z4f, Z22, Z23, Z3d, Z3e, Z27, Z26, vV_t, vV_f, vB_t, vB_f, encI, encB, mpG, mpG0, zDet, closed_Det, Cls_Pr]
          · simp [RenL_snoc, RenL.cl, RenV.cl, Z2r, Z2o, Z2s, Z2t, Z2p, Z2v, Z2u, Z2q, Z2w, Z2x, Z1d, Z1c, Z1b, Z19, Z18, Z1a, Z1e, Z52, Z4v, Z4z, Z3y, Z51, Z50, Z3z, Z1p, Z1q, Z1x, Z1v, Z1w, Z1u, Z1t, Z1s, Z1r, Z44, Z43, Z42, Z4e, Z4f, Z22, Z23, Z3d, Z3e, Z27, Z26, vV_t, vV_f, vB_t, vB_f, encI, encB, mpA, mpA0, Cls_Pr]
    · have hie : i = one.length := by omega
      have hlast : lsS D c = (one, nx, en) := by
        obtain ⟨k, e1, e2, e3, e4⟩ := hspec
        have hki : k = i := by
          rcases Nat.lt_trichotomy k i with h | h | h
          · have := hmin k h
            rw [← e1] at this; omega
          · exact h
          · have := e3 i h
            rw [hst] at this; simp only at this; omega
        rw [e1, hki, hst]
      rw [hpD, hlast]
      have hoI : ¬ (i : Int) < os.length := by omega
      simp [AWb_seq, Z0m, Z0n, Z0j, Z0k, Z0r, Z0l, Z0p, Z0q, Z0o, Z21, Z20, Z22, Z23, Z3d, Z3e, Z3a, vIdx, Z4x, Z4w, Z4y, vApp, Z4u, Z3u, Z11, Z10, Z0z, Z0x, Z0w, Z0y, Z17, Z16, Z15, Z13, Z12, Z14, Z2c, Z2d, Z2a, Z2n, Z31, Z30, Z07, Z08, Z06, Z01, Z02, Z00, Z04, Z05, Z03, Z1z, Z1y, Z46, Z48, Z47, Z45, Z1n, Z1o, Z1m, Z3n, Z3k, Z3m, Z3l, Z3o, Z1l, Z29, Z32, Z3x, Z1i, Z1j, Z1k, Z3v, Z3w, Z1g, Z28, Z1h, Z3i, Z3f, Z3h, Z3g, Z3j, Z41, Z40, Z0t, Z0u, Z0v, Z0s, Z1f, Z4c, Z4b, Z4d, Z4a, Z49, ex, Z43, Z42, ev_t, ev_c, Z27, Z26, Z4e, Z4f, Z2m, Z2l, Z2f, Z2j, Z2k, Z2g, Z2h, Z2i, putc, exBslice, lfill, exField, exIdxV, exBox, exAlloc, Z3b, Z3c, exStore, exFieldA, Z34, Z33, Z39, Z38, exPick, exUn, exBeq, exMM, exExt, binV, intOp, subc, Z4s, Z4r, Z4p, Z4q, Z4n, Z4l, Z4m, Z4o, Z4i, Z4j, Z4g, Z4t, S0, encI, encB, Z4k, Z2e, Z25, Z4h, Z2b, Z24, Z36, Z37, Z35, Z3s, Z3t, Z3r, Z3p, Z3q, idxT_Bs, Cel_Pr, vIdxP, vQ0, vQ1, vLd2, vQ0T, vQ1T, vLd2T, seqNe, seqNe2, solid_Pr, cells_Pr, mpA, mpA0, mpG, mpG0, hoI, RetC, evC, RV.ev, ldC, packC, zDet]
      refine .tupL (.cons (.aggL (.cons (.closed _ (.v _)) (.cons (vV_fz ?_ (Z1a _)) (.cons (vV_fz ?_ (Z18 _)) .nil)))) (.cons (.closed _ (.v _)) .nil))
      · simp [RenL_snoc, RenL.cl, RenV.cl, Z2r, Z2o, Z2s, Z2t, Z2p, Z2v, Z2u, Z2q, Z2w, Z2x, Z1d, Z1c, Z1b, Z19, Z18, Z1a, Z1e, Z52, Z4v, Z4z, Z3y, Z51, Z50, Z3z, Z1p, Z1q, Z1x, Z1v, Z1w, Z1u, Z1t, Z1s, Z1r, Z44, Z43, Z42, Z4e, Z4f, Z22, Z23, Z3d, Z3e, Z27, Z26, vV_t, vV_f, vB_t, vB_f, encI, encB]
      · simp [RenL_snoc, RenL.cl, RenV.cl, Z2r, Z2o, Z2s, Z2t, Z2p, Z2v, Z2u, Z2q, Z2w, Z2x, Z1d, Z1c, Z1b, Z19, Z18, Z1a, Z1e, Z52, Z4v, Z4z, Z3y, Z51, Z50, Z3z, Z1p, Z1q, Z1x, Z1v, Z1w, Z1u, Z1t, Z1s, Z1r, Z44, Z43, Z42, Z4e, Z4f, Z22, Z23, Z3d, Z3e, Z27, Z26, vV_t, vV_f, vB_t, vB_f, encI, encB]
theorem Xor_body {P : Program} {f : FuncId} {a b : Det} {most : Int} {r : Det × Int} (h : PureC P f [encDet a, encDet b, encI most, encI 3] (encDE r)) : AWb P 0 (c_caesuraref16_Xor f) (RetC [.c 6 (some 3), .t 7] (FzK (encDE r))) (argF [encDet a, encDet b, encI most]) S0 := by
  obtain ⟨x, e⟩ := r
  simp [AWb_seq, Z0m, Z0n, Z0j, Z0k, Z0r, Z0l, Z0p, Z0q, Z0o, Z21, Z20, Z22, Z23, Z3d, Z3e, Z3a, vIdx, Z4x, Z4w, Z4y, vApp, Z4u, Z3u, Z11, Z10, Z0z, Z0x, Z0w, Z0y, Z17, Z16, Z15, Z13, Z12, Z14, Z2c, Z2d, Z2a, Z2n, Z31, Z30, Z07, Z08, Z06, Z01, Z02, Z00, Z04, Z05, Z03, Z1z, Z1y, Z46, Z48, Z47, Z45, Z1n, Z1o, Z1m, Z3n, Z3k, Z3m, Z3l, Z3o, Z1l, Z29, Z32, Z3x, Z1i, Z1j, Z1k, Z3v, Z3w, Z1g, Z28, Z1h, Z3i, Z3f, Z3h, Z3g, Z3j, Z41, Z40, Z0t, Z0u, Z0v, Z0s, Z1f, Z4c, Z4b, Z4d, Z4a, Z49, ex, Z43, Z42, ev_t, ev_c, Z27, Z26, Z4e, Z4f, Z2m, Z2l, Z2f, Z2j, Z2k, Z2g, Z2h, Z2i, putc, exBslice, lfill, exField, exIdxV, exIdxP, exBox, exAlloc, Z3b, Z3c, exStore, exFieldA, Z34, Z33, Z39, Z38, exPick, exUn, exBeq, exMM, exSeq, seqGo, exExt, binV, intOp, subc, Z4s, Z4r, Z4p, Z4q, Z4n, Z4l, Z4m, Z4o, Z4i, Z4j, Z4g, Z4t, S0, encI, encB, Z4k, Z2e, Z25, Z4h, Z2b, Z24, Z36, Z37, Z35, Z3s, Z3t, Z3r, Z3p, Z3q, idxT_Bs, c_caesuraref16_Xor]
  refine CallR.pure h (cl_cons (closed_Det _) (cl_cons (closed_Det _) (cl_cons (Z2r _) (cl_cons (Z2r _) cl_nil)))) (closed_DE _) ?_
  simp [AWb_seq, Z0m, Z0n, Z0j, Z0k, Z0r, Z0l, Z0p, Z0q, Z0o, Z21, Z20, Z22, Z23, Z3d, Z3e, Z3a, vIdx, Z4x, Z4w, Z4y, vApp, Z4u, Z3u, Z11, Z10, Z0z, Z0x, Z0w, Z0y, Z17, Z16, Z15, Z13, Z12, Z14, Z2c, Z2d, Z2a, Z2n, Z31, Z30, Z07, Z08, Z06, Z01, Z02, Z00, Z04, Z05, Z03, Z1z, Z1y, Z46, Z48, Z47, Z45, Z1n, Z1o, Z1m, Z3n, Z3k, Z3m, Z3l, Z3o, Z1l, Z29, Z32, Z3x, Z1i, Z1j, Z1k, Z3v, Z3w, Z1g, Z28, Z1h, Z3i, Z3f, Z3h, Z3g, Z3j, Z41, Z40, Z0t, Z0u, Z0v, Z0s, Z1f, Z4c, Z4b, Z4d, Z4a, Z49, ex, Z43, Z42, ev_t, ev_c, Z27, Z26, Z4e, Z4f, Z2m, Z2l, Z2f, Z2j, Z2k, Z2g, Z2h, Z2i, putc, exBslice, lfill, exField, exIdxV, exIdxP, exBox, exAlloc, Z3b, Z3c, exStore, exFieldA, Z34, Z33, Z39, Z38, exPick, exUn, exBeq, exMM, exSeq, seqGo, exExt, binV, intOp, subc, Z4s, Z4r, Z4p, Z4q, Z4n, Z4l, Z4m, Z4o, Z4i, Z4j, Z4g, Z4t, S0, encI, encB, Z4k, Z2e, Z25, Z4h, Z2b, Z24, Z36, Z37, Z35, Z3s, Z3t, Z3r, Z3p, Z3q, idxT_Bs, encDE, RetC, evC, RV.ev, ldC, packC]
  exact .closed _ (closed_DE (x, e))
end Go.Rf

