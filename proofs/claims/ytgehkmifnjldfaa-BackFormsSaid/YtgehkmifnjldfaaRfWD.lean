import Derived.Test.YtgehkmifnjldfaaRfWC
/- Own work: the document's laying of a net: a form (walk). -/
set_option linter.unusedVariables false
set_option linter.unusedSimpArgs false
namespace Go.Rf
open Go.RowKit
attribute [local simp] AWb_seq Z0m Z0n Z0j Z0k Z0r Z0l Z0p Z0q Z0o Z21 Z20 Z22 Z23 Z3d Z3e Z3a vIdx Z4x Z4w Z4y vApp Z4u Z3u Z11 Z10 Z0z Z0x Z0w Z0y Z17 Z16 Z15 Z13 Z12 Z14 Z2c Z2d Z2a Z2n Z31 Z30 Z07 Z08 Z06 Z01 Z02 Z00 Z04 Z05 Z03 Z1z Z1y Z46 Z48 Z47 Z45 Z1n Z1o Z1m Z3n Z3k Z3m Z3l Z3o Z1l Z29 Z32 Z3x Z1i Z1j Z1k Z3v Z3w Z1g Z28 Z1h Z3i Z3f Z3h Z3g Z3j Z41 Z40 Z0t Z0u Z0v Z0s Z1f Z4c Z4b Z4d Z4a Z49 ex Z43 Z42 ev_t ev_c Z27 Z26 Z4e Z4f Z2m Z2l Z2f Z2j Z2k Z2g Z2h Z2i putc exBslice lfill exField exIdxV exIdxP exBox exAlloc Z3b Z3c exStore exFieldA Z34 Z33 Z39 Z38 exPick exUn exBeq exMM exSeq seqGo exExt binV intOp subc Z4s Z4r Z4p Z4q Z4n Z4l Z4m Z4o Z4i Z4j Z4g Z4t S0 encI encB Z4k Z2e Z25 Z4h Z2b Z24 Z36 Z37 Z35 Z3s Z3t Z3r Z3p Z3q idxT_Bs
def c_gf_s (f_caesuraref13_put : FuncId) : AC :=
  (.loop (.seq (.seq (.reg none [
        ⟨(some 30), .mv (.t 7), none, none⟩,
        ⟨(some 31), .fieldA 2 (.t 3), none, none⟩,
        ⟨(some 32), .load none (.t 31), none, none⟩,
        ⟨(some 33), .len (.t 32), none, none⟩,
        ⟨(some 34), .bin .lss (.t 30) (.t 33), none, none⟩])
       (.cond (.t 34) .skip (.exit 1)))
       (.seq (.block 2 (.seq (.reg (some []) [
         ⟨(some 37), .fieldA 2 (.t 3), none, none⟩,
         ⟨(some 38), .load none (.t 37), none, none⟩,
         ⟨(some 39), .mv (.t 7), none, none⟩,
         ⟨(some 40), .idxA 1 (.t 38) (.t 39), none, none⟩,
         ⟨(some 41), .load none (.t 40), none, none⟩,
         ⟨(some 42), .bin .geq (.t 41) (.c (.v (.int .i64 0))), none, none⟩,
         ⟨(some 43), .mv (.t 42), none, none⟩,
         ⟨(some 44), .fieldA 2 (.t 3), (some (43, true)), none⟩,
         ⟨(some 45), .load none (.t 44), (some (43, true)), none⟩,
         ⟨(some 46), .mv (.t 7), (some (43, true)), none⟩,
         ⟨(some 47), .idxA 1 (.t 45) (.t 46), (some (43, true)), none⟩,
         ⟨(some 48), .load none (.t 47), (some (43, true)), none⟩,
         ⟨(some 49), .mv (.t 0), (some (43, true)), none⟩,
         ⟨(some 50), .nilc (.t 49), (some (43, true)), none⟩,
         ⟨(some 51), .fieldA 0 (.t 50), (some (43, true)), none⟩,
         ⟨(some 52), .fieldA 0 (.t 51), (some (43, true)), none⟩,
         ⟨(some 53), .load none (.t 52), (some (43, true)), none⟩,
         ⟨(some 54), .bin .lss (.t 48) (.t 53), (some (43, true)), none⟩,
         ⟨(some 55), .pick (.t 43) (.t 54) (.c (.v (.bool false))), none, none⟩])
        (.cond (.t 55) (.reg none [
          ⟨(some 56), .mv (.t 6), none, none⟩,
          ⟨(some 57), .fieldA 2 (.t 3), none, none⟩,
          ⟨(some 58), .load none (.t 57), none, none⟩,
          ⟨(some 59), .mv (.t 7), none, none⟩,
          ⟨(some 60), .idxA 1 (.t 58) (.t 59), none, none⟩,
          ⟨(some 61), .load none (.t 60), none, none⟩,
          ⟨(some 62), .mv (.c .junk), none, (some ((.c (.clo f_caesuraref13_put [] [])), [(.t 56), (.t 61)]))⟩,
          ⟨(some 6), .mv (.t 62), none, none⟩]) .skip)))
       (.reg none [
        ⟨(some 35), .mv (.t 7), none, none⟩,
        ⟨(some 36), .bin .add (.t 35) (.c (.v (.int .i64 1))), none, none⟩,
        ⟨(some 7), .mv (.t 36), none, none⟩]))))
def c_gf_j (f_caesuraref13_grow_form f_caesuraref13_grow_behind f_caesuraref13_all : FuncId) : AC :=
  (.loop (.seq (.seq (.reg none [
         ⟨(some 96), .mv (.t 9), none, none⟩,
         ⟨(some 97), .fieldA 3 (.t 3), none, none⟩,
         ⟨(some 98), .load none (.t 97), none, none⟩,
         ⟨(some 99), .len (.t 98), none, none⟩,
         ⟨(some 100), .bin .lss (.t 96) (.t 99), none, none⟩])
        (.cond (.t 100) .skip (.exit 3)))
        (.seq (.block 4 (.seq (.reg none [
          ⟨(some 103), .mv (.t 0), none, none⟩,
          ⟨(some 104), .fieldA 3 (.t 3), none, none⟩,
          ⟨(some 105), .load none (.t 104), none, none⟩,
          ⟨(some 106), .mv (.t 9), none, none⟩,
          ⟨(some 107), .idxA 4 (.t 105) (.t 106), none, none⟩,
          ⟨(some 108), .load (some 4) (.t 107), none, none⟩,
          ⟨(some 109), .mv (.c .junk), none, (some ((.c (.clo f_caesuraref13_grow_form [] [])), [(.t 103), (.t 108)]))⟩,
          ⟨(some 10), .alloc (.agg [(.v (.bool false)), (.sl true []), (.sl true [])]) 3, none, none⟩,
          ⟨none, .store 3 (.t 10) (.t 109), none, none⟩])
         (.seq (.reg none [
          ⟨(some 110), .mv (.t 0), none, none⟩,
          ⟨(some 111), .fieldA 2 (.t 8), none, none⟩,
          ⟨(some 112), .load none (.t 111), none, none⟩,
          ⟨(some 113), .fieldA 1 (.t 10), none, none⟩,
          ⟨(some 114), .load none (.t 113), none, none⟩,
          ⟨(some 115), .mv (.c .junk), none, (some ((.c (.clo f_caesuraref13_grow_behind [] [])), [(.t 110), (.t 112), (.t 114)]))⟩])
         (.seq (.seq (.reg none [
          ⟨(some 116), .fieldA 0 (.t 8), none, none⟩,
          ⟨(some 117), .load none (.t 116), none, none⟩])
         (.cond (.t 117) (.reg none [
           ⟨(some 118), .fieldA 1 (.t 8), none, none⟩,
           ⟨(some 119), .load none (.t 118), none, none⟩,
           ⟨(some 120), .fieldA 1 (.t 10), none, none⟩,
           ⟨(some 121), .load none (.t 120), none, none⟩,
           ⟨(some 122), .mv (.c .junk), none, (some ((.c (.clo f_caesuraref13_all [] [])), [(.t 119), (.t 121)]))⟩,
           ⟨(some 123), .fieldA 1 (.t 8), none, none⟩,
           ⟨none, .store 1 (.t 123) (.t 122), none, none⟩]) .skip))
         (.seq (.seq (.reg none [
          ⟨(some 124), .fieldA 0 (.t 10), none, none⟩,
          ⟨(some 125), .load none (.t 124), none, none⟩])
         (.cond (.t 125) (.reg none [
           ⟨(some 126), .fieldA 2 (.t 8), none, none⟩,
           ⟨(some 127), .load none (.t 126), none, none⟩,
           ⟨(some 128), .fieldA 2 (.t 10), none, none⟩,
           ⟨(some 129), .load none (.t 128), none, none⟩,
           ⟨(some 130), .mv (.c .junk), none, (some ((.c (.clo f_caesuraref13_all [] [])), [(.t 127), (.t 129)]))⟩,
           ⟨(some 131), .fieldA 2 (.t 8), none, none⟩,
           ⟨none, .store 1 (.t 131) (.t 130), none, none⟩]) (.reg none [
           ⟨(some 132), .fieldA 2 (.t 10), none, none⟩,
           ⟨(some 133), .load none (.t 132), none, none⟩,
           ⟨(some 134), .fieldA 2 (.t 8), none, none⟩,
           ⟨none, .store 1 (.t 134) (.t 133), none, none⟩])))
         (.reg none [
          ⟨(some 135), .fieldA 0 (.t 8), none, none⟩,
          ⟨(some 136), .load none (.t 135), none, none⟩,
          ⟨(some 137), .mv (.t 136), none, none⟩,
          ⟨(some 138), .fieldA 0 (.t 10), (some (137, true)), none⟩,
          ⟨(some 139), .load none (.t 138), (some (137, true)), none⟩,
          ⟨(some 140), .pick (.t 137) (.t 139) (.c (.v (.bool false))), none, none⟩,
          ⟨(some 141), .fieldA 0 (.t 8), none, none⟩,
          ⟨none, .store 1 (.t 141) (.t 140), none, none⟩]))))))
        (.reg none [
         ⟨(some 101), .mv (.t 9), none, none⟩,
         ⟨(some 102), .bin .add (.t 101) (.c (.v (.int .i64 1))), none, none⟩,
         ⟨(some 9), .mv (.t 102), none, none⟩]))))
def c_gf_o (f_caesuraref13_grow_form f_caesuraref13_all : FuncId) : AC :=
  (.loop (.seq (.seq (.reg none [
          ⟨(some 147), .mv (.t 12), none, none⟩,
          ⟨(some 148), .fieldA 3 (.t 3), none, none⟩,
          ⟨(some 149), .load none (.t 148), none, none⟩,
          ⟨(some 150), .len (.t 149), none, none⟩,
          ⟨(some 151), .bin .lss (.t 147) (.t 150), none, none⟩])
         (.cond (.t 151) .skip (.exit 5)))
         (.seq (.block 6 (.seq (.reg none [
           ⟨(some 154), .mv (.t 0), none, none⟩,
           ⟨(some 155), .fieldA 3 (.t 3), none, none⟩,
           ⟨(some 156), .load none (.t 155), none, none⟩,
           ⟨(some 157), .mv (.t 12), none, none⟩,
           ⟨(some 158), .idxA 4 (.t 156) (.t 157), none, none⟩,
           ⟨(some 159), .load (some 4) (.t 158), none, none⟩,
           ⟨(some 160), .mv (.c .junk), none, (some ((.c (.clo f_caesuraref13_grow_form [] [])), [(.t 154), (.t 159)]))⟩,
           ⟨(some 13), .alloc (.agg [(.v (.bool false)), (.sl true []), (.sl true [])]) 3, none, none⟩,
           ⟨none, .store 3 (.t 13) (.t 160), none, none⟩])
          (.reg (some []) [
           ⟨(some 161), .fieldA 0 (.t 11), none, none⟩,
           ⟨(some 162), .load none (.t 161), none, none⟩,
           ⟨(some 163), .mv (.t 162), none, none⟩,
           ⟨(some 164), .fieldA 0 (.t 13), (some (163, false)), none⟩,
           ⟨(some 165), .load none (.t 164), (some (163, false)), none⟩,
           ⟨(some 166), .pick (.t 163) (.c (.v (.bool true))) (.t 165), none, none⟩,
           ⟨(some 167), .fieldA 1 (.t 11), none, none⟩,
           ⟨(some 168), .load none (.t 167), none, none⟩,
           ⟨(some 169), .fieldA 1 (.t 13), none, none⟩,
           ⟨(some 170), .load none (.t 169), none, none⟩,
           ⟨(some 171), .mv (.c .junk), none, (some ((.c (.clo f_caesuraref13_all [] [])), [(.t 168), (.t 170)]))⟩,
           ⟨(some 172), .fieldA 2 (.t 11), none, none⟩,
           ⟨(some 173), .load none (.t 172), none, none⟩,
           ⟨(some 174), .fieldA 2 (.t 13), none, none⟩,
           ⟨(some 175), .load none (.t 174), none, none⟩,
           ⟨(some 176), .mv (.c .junk), none, (some ((.c (.clo f_caesuraref13_all [] [])), [(.t 173), (.t 175)]))⟩,
           ⟨(some 177), .build (.agg [(.v (.bool false)), (.sl true []), (.sl true [])]) [(0, 1), (1, 1), (2, 1)] [(0, (.t 166)), (1, (.t 171)), (2, (.t 176))], none, none⟩,
           ⟨none, .store 3 (.t 11) (.t 177), none, none⟩])))
         (.reg none [
          ⟨(some 152), .mv (.t 12), none, none⟩,
          ⟨(some 153), .bin .add (.t 152) (.c (.v (.int .i64 1))), none, none⟩,
          ⟨(some 12), .mv (.t 153), none, none⟩]))))
def c_caesuraref13_grow_form (f_caesuraref13_put f_caesuraref13_grow_form f_caesuraref13_grow_behind f_caesuraref13_all f_caesuraref13_grow_rest : FuncId) : AC :=
  (.seq (.reg none [
   ⟨(some 3), .box 4 (.t 1), none, none⟩,
   ⟨(some 4), .alloc (.agg [(.v (.bool false)), (.sl true []), (.sl true [])]) 3, none, none⟩])
  (.seq (.block 0 (.seq (.reg none [
    ⟨(some 16), .fieldA 0 (.t 3), none, none⟩,
    ⟨(some 17), .load none (.t 16), none, none⟩,
    ⟨(some 18), .bin .eql (.t 17) (.c (.v (.int .i64 1))), none, none⟩,
    ⟨(some 15), .mv (.t 18), none, none⟩])
   (.cond (.t 15) (.seq (.reg none [
     ⟨(some 19), .build (.agg [(.v (.bool false)), (.sl true []), (.sl true [])]) [(0, 1)] [(0, (.c (.v (.bool true))))], none, none⟩,
     ⟨none, .store 3 (.t 4) (.t 19), none, none⟩])
    .ret) (.seq (.reg none [
     ⟨(some 21), .fieldA 0 (.t 3), none, none⟩,
     ⟨(some 22), .load none (.t 21), none, none⟩,
     ⟨(some 23), .bin .eql (.t 22) (.c (.v (.int .i64 2))), none, none⟩,
     ⟨(some 20), .mv (.t 23), none, none⟩])
    (.cond (.t 20) (.seq (.reg none [
      ⟨(some 24), .mv (.t 0), none, none⟩,
      ⟨(some 25), .nilc (.t 24), none, none⟩,
      ⟨(some 26), .fieldA 0 (.t 25), none, none⟩,
      ⟨(some 27), .fieldA 1 (.t 26), none, none⟩,
      ⟨(some 28), .load none (.t 27), none, none⟩,
      ⟨(some 29), .len (.t 28), none, none⟩,
      ⟨(some 5), .mv (.t 29), none, none⟩])
     (.seq (.reg none [
      ⟨(some 6), .mv (.c (.sl true [])), none, none⟩])
     (.seq (.seq (.reg none [
      ⟨(some 7), .mv (.c (.v (.int .i64 0))), none, none⟩])
     (.block 1 (c_gf_s f_caesuraref13_put)))
     (.seq (.reg (some [[], [], [], [], [], [], [], [], [], [false, false, false, false, false, false, false, true, true], [true], [false, true], [false, false, true], [false, false, false, true], [false, false, false, false, true], [false, false, false, false, false, true], [false, false, false, false, false, false, false, false, false, false, false, false, false, false, true, true], [], [], [], [false, false, false, false, false, false, false, false, false, false, false, false, false, false, false, false, false, false, true]]) [
      ⟨(some 63), .mv (.t 0), none, none⟩,
      ⟨(some 64), .mv (.t 0), none, none⟩,
      ⟨(some 65), .mv (.t 0), none, none⟩,
      ⟨(some 66), .nilc (.t 65), none, none⟩,
      ⟨(some 67), .fieldA 0 (.t 66), none, none⟩,
      ⟨(some 68), .fieldA 1 (.t 67), none, none⟩,
      ⟨(some 69), .load none (.t 68), none, none⟩,
      ⟨(some 70), .mv (.t 6), none, none⟩,
      ⟨(some 71), .bslice 1 1 (.sl true []) [(0, (.t 70))], none, none⟩,
      ⟨(some 72), .app 1 24 (.t 69) (.t 71), none, none⟩,
      ⟨(some 73), .mv (.t 0), none, none⟩,
      ⟨(some 74), .nilc (.t 73), none, none⟩,
      ⟨(some 75), .fieldA 0 (.t 74), none, none⟩,
      ⟨(some 76), .fieldA 2 (.t 75), none, none⟩,
      ⟨(some 77), .load none (.t 76), none, none⟩,
      ⟨(some 78), .bslice 1 1 (.sl true []) [(0, (.c (.sl true [])))], none, none⟩,
      ⟨(some 79), .app 1 24 (.t 77) (.t 78), none, none⟩,
      ⟨(some 80), .nilc (.t 63), none, none⟩,
      ⟨(some 81), .fieldA 0 (.t 80), none, none⟩,
      ⟨(some 82), .fieldA 1 (.t 81), none, none⟩,
      ⟨none, .store 1 (.t 82) (.t 72), none, none⟩,
      ⟨(some 83), .nilc (.t 64), none, none⟩,
      ⟨(some 84), .fieldA 0 (.t 83), none, none⟩,
      ⟨(some 85), .fieldA 2 (.t 84), none, none⟩,
      ⟨none, .store 1 (.t 85) (.t 79), none, none⟩])
     (.seq (.reg none [
      ⟨(some 86), .mv (.t 5), none, none⟩,
      ⟨(some 87), .bslice 1 1 (.v (.int .i64 0)) [(0, (.t 86))], none, none⟩,
      ⟨(some 88), .mv (.t 5), none, none⟩,
      ⟨(some 89), .bslice 1 1 (.v (.int .i64 0)) [(0, (.t 88))], none, none⟩,
      ⟨(some 90), .build (.agg [(.v (.bool false)), (.sl true []), (.sl true [])]) [(1, 1), (2, 1)] [(1, (.t 87)), (2, (.t 89))], none, none⟩,
      ⟨none, .store 3 (.t 4) (.t 90), none, none⟩])
     .ret))))) (.seq (.reg none [
      ⟨(some 92), .fieldA 0 (.t 3), none, none⟩,
      ⟨(some 93), .load none (.t 92), none, none⟩,
      ⟨(some 94), .bin .eql (.t 93) (.c (.v (.int .i64 3))), none, none⟩,
      ⟨(some 91), .mv (.t 94), none, none⟩])
     (.cond (.t 91) (.seq (.reg none [
       ⟨(some 95), .build (.agg [(.v (.bool false)), (.sl true []), (.sl true [])]) [(0, 1)] [(0, (.c (.v (.bool true))))], none, none⟩,
       ⟨(some 8), .alloc (.agg [(.v (.bool false)), (.sl true []), (.sl true [])]) 3, none, none⟩,
       ⟨none, .store 3 (.t 8) (.t 95), none, none⟩])
      (.seq (.seq (.reg none [
       ⟨(some 9), .mv (.c (.v (.int .i64 0))), none, none⟩])
      (.block 3 (c_gf_j f_caesuraref13_grow_form f_caesuraref13_grow_behind f_caesuraref13_all)))
      (.seq (.reg none [
       ⟨(some 142), .load (some 3) (.t 8), none, none⟩,
       ⟨none, .store 3 (.t 4) (.t 142), none, none⟩])
      .ret))) (.seq (.reg none [
       ⟨(some 144), .fieldA 0 (.t 3), none, none⟩,
       ⟨(some 145), .load none (.t 144), none, none⟩,
       ⟨(some 146), .bin .eql (.t 145) (.c (.v (.int .i64 4))), none, none⟩,
       ⟨(some 143), .mv (.t 146), none, none⟩])
      (.cond (.t 143) (.seq (.reg none [
        ⟨(some 11), .alloc (.agg [(.v (.bool false)), (.sl true []), (.sl true [])]) 3, none, none⟩])
       (.seq (.seq (.reg none [
        ⟨(some 12), .mv (.c (.v (.int .i64 0))), none, none⟩])
       (.block 5 (c_gf_o f_caesuraref13_grow_form f_caesuraref13_all)))
       (.seq (.reg none [
        ⟨(some 178), .load (some 3) (.t 11), none, none⟩,
        ⟨none, .store 3 (.t 4) (.t 178), none, none⟩])
       .ret))) (.seq (.reg none [
        ⟨(some 180), .fieldA 0 (.t 3), none, none⟩,
        ⟨(some 181), .load none (.t 180), none, none⟩,
        ⟨(some 182), .bin .eql (.t 181) (.c (.v (.int .i64 5))), none, none⟩,
        ⟨(some 183), .mv (.t 182), none, none⟩,
        ⟨(some 184), .fieldA 0 (.t 3), (some (183, false)), none⟩,
        ⟨(some 185), .load none (.t 184), (some (183, false)), none⟩,
        ⟨(some 186), .bin .eql (.t 185) (.c (.v (.int .i64 6))), (some (183, false)), none⟩,
        ⟨(some 187), .pick (.t 183) (.c (.v (.bool true))) (.t 186), none, none⟩,
        ⟨(some 188), .mv (.t 187), none, none⟩,
        ⟨(some 189), .fieldA 0 (.t 3), (some (188, false)), none⟩,
        ⟨(some 190), .load none (.t 189), (some (188, false)), none⟩,
        ⟨(some 191), .bin .eql (.t 190) (.c (.v (.int .i64 7))), (some (188, false)), none⟩,
        ⟨(some 192), .pick (.t 188) (.c (.v (.bool true))) (.t 191), none, none⟩,
        ⟨(some 193), .mv (.t 192), none, none⟩,
        ⟨(some 194), .fieldA 3 (.t 3), (some (193, true)), none⟩,
        ⟨(some 195), .load none (.t 194), (some (193, true)), none⟩,
        ⟨(some 196), .len (.t 195), (some (193, true)), none⟩,
        ⟨(some 197), .bin .eql (.t 196) (.c (.v (.int .i64 1))), (some (193, true)), none⟩,
        ⟨(some 198), .pick (.t 193) (.t 197) (.c (.v (.bool false))), none, none⟩,
        ⟨(some 179), .mv (.t 198), none, none⟩])
       (.cond (.t 179) (.seq (.reg none [
         ⟨(some 199), .mv (.t 0), none, none⟩,
         ⟨(some 200), .fieldA 3 (.t 3), none, none⟩,
         ⟨(some 201), .load none (.t 200), none, none⟩,
         ⟨(some 202), .idxA 4 (.t 201) (.c (.v (.int .i64 0))), none, none⟩,
         ⟨(some 203), .load (some 4) (.t 202), none, none⟩,
         ⟨(some 204), .mv (.c .junk), none, (some ((.c (.clo f_caesuraref13_grow_form [] [])), [(.t 199), (.t 203)]))⟩,
         ⟨(some 14), .alloc (.agg [(.v (.bool false)), (.sl true []), (.sl true [])]) 3, none, none⟩,
         ⟨none, .store 3 (.t 14) (.t 204), none, none⟩])
        (.seq (.seq (.reg none [
         ⟨(some 205), .fieldA 0 (.t 3), none, none⟩,
         ⟨(some 206), .load none (.t 205), none, none⟩,
         ⟨(some 207), .bin .neq (.t 206) (.c (.v (.int .i64 7))), none, none⟩])
        (.cond (.t 207) (.reg none [
          ⟨(some 208), .mv (.t 0), none, none⟩,
          ⟨(some 209), .fieldA 2 (.t 14), none, none⟩,
          ⟨(some 210), .load none (.t 209), none, none⟩,
          ⟨(some 211), .fieldA 1 (.t 14), none, none⟩,
          ⟨(some 212), .load none (.t 211), none, none⟩,
          ⟨(some 213), .mv (.c .junk), none, (some ((.c (.clo f_caesuraref13_grow_behind [] [])), [(.t 208), (.t 210), (.t 212)]))⟩]) .skip))
        (.seq (.reg none [
         ⟨(some 214), .fieldA 0 (.t 14), none, none⟩,
         ⟨(some 215), .load none (.t 214), none, none⟩,
         ⟨(some 216), .mv (.t 215), none, none⟩,
         ⟨(some 217), .fieldA 0 (.t 3), (some (216, false)), none⟩,
         ⟨(some 218), .load none (.t 217), (some (216, false)), none⟩,
         ⟨(some 219), .bin .neq (.t 218) (.c (.v (.int .i64 6))), (some (216, false)), none⟩,
         ⟨(some 220), .pick (.t 216) (.c (.v (.bool true))) (.t 219), none, none⟩,
         ⟨(some 221), .fieldA 1 (.t 14), none, none⟩,
         ⟨(some 222), .load none (.t 221), none, none⟩,
         ⟨(some 223), .fieldA 2 (.t 14), none, none⟩,
         ⟨(some 224), .load none (.t 223), none, none⟩,
         ⟨(some 225), .build (.agg [(.v (.bool false)), (.sl true []), (.sl true [])]) [(0, 1), (1, 1), (2, 1)] [(0, (.t 220)), (1, (.t 222)), (2, (.t 224))], none, none⟩,
         ⟨none, .store 3 (.t 4) (.t 225), none, none⟩])
        .ret))) .skip)))))))))))
  (.seq (.reg none [
   ⟨(some 226), .mv (.t 0), none, none⟩,
   ⟨(some 227), .load (some 4) (.t 3), none, none⟩,
   ⟨(some 228), .mv (.c .junk), none, (some ((.c (.clo f_caesuraref13_grow_rest [] [])), [(.t 226), (.t 227)]))⟩,
   ⟨none, .store 3 (.t 4) (.t 228), none, none⟩])
  .ret)))
structure GrowFns (P : Program) (sg : Int) (ff fp fb fa fr : FuncId) : Prop where
  put : HPut P fp
  all : HAll P fa
  behind : ∀ (ss be : List Int) (st : Gs), StN st → UpN st.by_.length ss → UpN st.by_.length be → st.by_.length ≤ 10000 → CallM P fb [encIs ss, encIs be] sg true st ⟨st.by_, folF st.fo ss be⟩ (.tup [])
  rest : ∀ (k0 : Int) (ps : List Rg) (pg : List Int) (ks : List Pat), ks.length ≤ 100000 → (∀ q ∈ ks, FormOkD P ff sg q) → ∀ (st : Gs), StN st → st.by_.length + cntL ks ≤ 10000 → CallM P fr [encPat (.mk k0 ps pg ks)] sg true st (deach sg ks st).2 (encEd (ed0 false))
def gfI (_ : Nat) (_ : Unit) : Prop := True
def gsA (sg : Int) (st : Gs) (pg : List Int) (k : Nat) (_ : Unit) : List (Nat × AV) := [(0, .ptr 0 0 0), (3, .ptr 5 0 0), (4, .ptr 6 0 0), (5, encI st.by_.length), (6, encIs (((pg.take k).filter (kpI sg)).foldl putF [])), (7, encI k)]
def gsG (sg : Int) (st : Gs) (p : Pat) (_ : Nat) (_ : Unit) : List (Nat × Option Blk) := (5, some (.arr 4 [encPat p])) :: (6, some (.arr 3 [encEd (ed0 false)])) :: mG sg true st 0 3 4
def gjA (k : Nat) (_ : Unit) : List (Nat × AV) := [(0, .ptr 0 0 0), (3, .ptr 5 0 0), (4, .ptr 6 0 0), (8, .ptr 7 0 0), (9, encI k)]
def gjG (sg : Int) (st : Gs) (p : Pat) (ks : List Pat) (k : Nat) (_ : Unit) : List (Nat × Option Blk) :=
  (5, some (.arr 4 [encPat p])) :: (6, some (.arr 3 [encEd (ed0 false)])) :: (7, some (.arr 3 [encEd (djoin sg (ks.take k) (ed0 true) st).1])) :: mG sg true (djoin sg (ks.take k) (ed0 true) st).2 0 3 4
def goA (k : Nat) (_ : Unit) : List (Nat × AV) := [(0, .ptr 0 0 0), (3, .ptr 5 0 0), (4, .ptr 6 0 0), (11, .ptr 7 0 0), (12, encI k)]
def goG (sg : Int) (st : Gs) (p : Pat) (ks : List Pat) (k : Nat) (_ : Unit) : List (Nat × Option Blk) :=
  (5, some (.arr 4 [encPat p])) :: (6, some (.arr 3 [encEd (ed0 false)])) :: (7, some (.arr 3 [encEd (dor sg (ks.take k) (ed0 false) st).1])) :: mG sg true (dor sg (ks.take k) (ed0 false) st).2 0 3 4
theorem gone_no {es : List Ed} {k : Int} {st : Gs} (h : ¬ ((k = 5 ∨ k = 6 ∨ k = 7) ∧ es.length = 1)) : gone es k st = (⟨false, [], []⟩, st) := by
  match es, h with
  | [], _ => rfl
  | [e], h => simp only [gone]; rw [if_neg (by simp at h; omega)]
  | _ :: _ :: _, _ => rfl
theorem formD_gone {P : Program} (hm : P.follows .mixedOrders = true) {sg : Int} {ff fp fb fa fr : FuncId} (F : GrowFns P sg ff fp fb fa fr) (h : IsC P ff (c_caesuraref13_grow_form fp ff fb fa fr) [.c 4 (some 3)] 2)
    {k : Int} {ps : List Rg} {pg : List Int} {ks : List Pat} (hks : ks.length ≤ 100000) (hpg : pg.length ≤ 100000) (hq : ∀ q ∈ ks, FormOkD P ff sg q) (k1 : ¬ k = 1) (k2 : ¬ k = 2) (k3 : ¬ k = 3) (k4 : ¬ k = 4) : FormOkD P ff sg (.mk k ps pg ks) := by
  intro st hst hb
  have hbl : st.by_.length ≤ 10000 := by omega
  have hcp := closed_Pat' k ps pg ks
  refine h.callB hm rfl ?_
  have k1' : (k == 1) = false := by simpa using k1
  have k2' : (k == 2) = false := by simpa using k2
  have k3' : (k == 3) = false := by simpa using k3
  have k4' : (k == 4) = false := by simpa using k4
  have hcn : cntP (.mk k ps pg ks) = cntL ks := by simp only [cntP]; rw [if_neg k1, if_neg k2]
  have hres : dform sg (.mk k ps pg ks) st = gone (deach sg ks st).1 k (deach sg ks st).2 := by simp [dform, k1, k2, k3, k4]
  have hR := F.rest k ps pg ks hks hq st hst (by omega)
  simp only [encPat_eq, encI] at hR
  have hdl : (deach sg ks st).1.length = ks.length := by rw [deach_eq sg ks st hst.ok]; exact geach_len sg ks st
  by_cases h57 : (k = 5 ∨ k = 6 ∨ k = 7) ∧ ks.length = 1
  · obtain ⟨h57, hk1⟩ := h57
    obtain ⟨q, rfl⟩ := List.length_eq_one_iff.mp hk1
    have hcq : cntL [q] = cntP q := by simp [cntL]
    obtain ⟨m1, m2, m3⟩ := dform_N sg q st hst
    have hqk := hq q (by simp) st hst (by omega)
    have hde : deach sg [q] st = ([(dform sg q st).1], (dform sg q st).2) := by simp [deach]
    rw [hde] at hres
    obtain ⟨pk, qs, qg, pks⟩ := q
    simp only [encPat_eq, encI] at hqk
    have hck := closed_Pat' pk qs qg pks
    generalize hfm : dform sg (.mk pk qs qg pks) st = fm at *
    obtain ⟨e, st1⟩ := fm
    simp only at m1 m2 m3 hqk hres
    have hbb := F.behind e.lst e.fst st1 m1 m2.l m2.f (by omega)
    rcases h57 with rfl | rfl | rfl
    · simp [c_caesuraref13_grow_form, encPat_eq, mG, mCell, exAlloc]
      refine CallM.use hqk (fun _ => .cl (cl_cons hck cl_nil)) (closed_Ed _) (id := 0) (b := 1) (c := 2) (by simp [mCell, vV_t]) (by simp [vB_t]) (by simp [vB_t]) (by simp) (by simp) ?_
      simp [mOut, mCell, exAlloc, cells_Ed, solid_Ed]
      refine CallM.use hbb (fun _ => .cl (cl_cons (Z2s _) (cl_cons (Z2s _) cl_nil))) (.tup _ (by simp)) (id := 0) (b := 49) (c := 50) (by simp [mCell, vV_t]) (by simp [vB_t]) (by simp [vB_t]) (by simp) (by simp) ?_
      cases hn : e.nul
      · have hres2 : dform sg (.mk 5 ps pg [.mk pk qs qg pks]) st = (⟨true, e.fst, e.lst⟩, ⟨st1.by_, folF st1.fo e.lst e.fst⟩) := by rw [hres]; simp [gone, hn]
        simp [mOut, mCell, exBuild, afill, cells_Ed, solid_Ed, hn, RetNC]
        refine ⟨afOf [(4, .ptr 5 0 0)], ⟨10, gOf (mG sg true ⟨st1.by_, folF st1.fo e.lst e.fst⟩ 0 3 4 ++ [(5, some (.arr 3 [encEd ⟨true, e.fst, e.lst⟩]))])⟩, Abs.of [(0, 0), (3, 65), (4, 66), (5, 4)] [] (by omega) ⟨by simp, by simp⟩ ?_ ?_, ?_⟩
        · simp [RenL_snoc, RenL.cl, RenV.cl, Z2r, Z2o, Z2s, Z2t, Z2p, Z2v, Z2u, Z2q, Z2w, Z2x, Z1d, Z1c, Z1b, Z19, Z18, Z1a, Z1e, Z52, Z4v, Z4z, Z3y, Z51, Z50, Z3z, Z1p, Z1q, Z1x, Z1v, Z1w, Z1u, Z1t, Z1s, Z1r, Z44, Z43, Z42, Z4e, Z4f, Z22, Z23, Z3d, Z3e, Z27, Z26, vV_t, vV_f, vB_t, vB_f, encI, encB, mG, mCell, encEd]
        · simp [RenL_snoc, RenL.cl, RenV.cl, Z2r, Z2o, Z2s, Z2t, Z2p, Z2v, Z2u, Z2q, Z2w, Z2x, Z1d, Z1c, Z1b, Z19, Z18, Z1a, Z1e, Z52, Z4v, Z4z, Z3y, Z51, Z50, Z3z, Z1p, Z1q, Z1x, Z1v, Z1w, Z1u, Z1t, Z1s, Z1r, Z44, Z43, Z42, Z4e, Z4f, Z22, Z23, Z3d, Z3e, Z27, Z26, vV_t, vV_f, vB_t, vB_f, encI, encB]
        · simp [RetC, evC, RV.ev, ldC, packC, gOf_m5, cells_Ed, agg_Ed, hres2]
          first | exact .of | exact ⟨rfl, .of⟩
      · have hres2 : dform sg (.mk 5 ps pg [.mk pk qs qg pks]) st = (⟨true, e.fst, e.lst⟩, ⟨st1.by_, folF st1.fo e.lst e.fst⟩) := by rw [hres]; simp [gone, hn]
        simp [mOut, mCell, exBuild, afill, cells_Ed, solid_Ed, hn, RetNC]
        refine ⟨afOf [(4, .ptr 5 0 0)], ⟨10, gOf (mG sg true ⟨st1.by_, folF st1.fo e.lst e.fst⟩ 0 3 4 ++ [(5, some (.arr 3 [encEd ⟨true, e.fst, e.lst⟩]))])⟩, Abs.of [(0, 0), (3, 65), (4, 66), (5, 4)] [] (by omega) ⟨by simp, by simp⟩ ?_ ?_, ?_⟩
        · simp [RenL_snoc, RenL.cl, RenV.cl, Z2r, Z2o, Z2s, Z2t, Z2p, Z2v, Z2u, Z2q, Z2w, Z2x, Z1d, Z1c, Z1b, Z19, Z18, Z1a, Z1e, Z52, Z4v, Z4z, Z3y, Z51, Z50, Z3z, Z1p, Z1q, Z1x, Z1v, Z1w, Z1u, Z1t, Z1s, Z1r, Z44, Z43, Z42, Z4e, Z4f, Z22, Z23, Z3d, Z3e, Z27, Z26, vV_t, vV_f, vB_t, vB_f, encI, encB, mG, mCell, encEd]
        · simp [RenL_snoc, RenL.cl, RenV.cl, Z2r, Z2o, Z2s, Z2t, Z2p, Z2v, Z2u, Z2q, Z2w, Z2x, Z1d, Z1c, Z1b, Z19, Z18, Z1a, Z1e, Z52, Z4v, Z4z, Z3y, Z51, Z50, Z3z, Z1p, Z1q, Z1x, Z1v, Z1w, Z1u, Z1t, Z1s, Z1r, Z44, Z43, Z42, Z4e, Z4f, Z22, Z23, Z3d, Z3e, Z27, Z26, vV_t, vV_f, vB_t, vB_f, encI, encB]
        · simp [RetC, evC, RV.ev, ldC, packC, gOf_m5, cells_Ed, agg_Ed, hres2]
          first | exact .of | exact ⟨rfl, .of⟩
    · simp [c_caesuraref13_grow_form, encPat_eq, mG, mCell, exAlloc]
      refine CallM.use hqk (fun _ => .cl (cl_cons hck cl_nil)) (closed_Ed _) (id := 0) (b := 1) (c := 2) (by simp [mCell, vV_t]) (by simp [vB_t]) (by simp [vB_t]) (by simp) (by simp) ?_
      simp [mOut, mCell, exAlloc, cells_Ed, solid_Ed]
      refine CallM.use hbb (fun _ => .cl (cl_cons (Z2s _) (cl_cons (Z2s _) cl_nil))) (.tup _ (by simp)) (id := 0) (b := 49) (c := 50) (by simp [mCell, vV_t]) (by simp [vB_t]) (by simp [vB_t]) (by simp) (by simp) ?_
      cases hn : e.nul
      · have hres2 : dform sg (.mk 6 ps pg [.mk pk qs qg pks]) st = (⟨false, e.fst, e.lst⟩, ⟨st1.by_, folF st1.fo e.lst e.fst⟩) := by rw [hres]; simp [gone, hn]
        simp [mOut, mCell, exBuild, afill, cells_Ed, solid_Ed, hn, RetNC]
        refine ⟨afOf [(4, .ptr 5 0 0)], ⟨10, gOf (mG sg true ⟨st1.by_, folF st1.fo e.lst e.fst⟩ 0 3 4 ++ [(5, some (.arr 3 [encEd ⟨false, e.fst, e.lst⟩]))])⟩, Abs.of [(0, 0), (3, 65), (4, 66), (5, 4)] [] (by omega) ⟨by simp, by simp⟩ ?_ ?_, ?_⟩
        · simp [RenL_snoc, RenL.cl, RenV.cl, Z2r, Z2o, Z2s, Z2t, Z2p, Z2v, Z2u, Z2q, Z2w, Z2x, Z1d, Z1c, Z1b, Z19, Z18, Z1a, Z1e, Z52, Z4v, Z4z, Z3y, Z51, Z50, Z3z, Z1p, Z1q, Z1x, Z1v, Z1w, Z1u, Z1t, Z1s, Z1r, Z44, Z43, Z42, Z4e, Z4f, Z22, Z23, Z3d, Z3e, Z27, Z26, vV_t, vV_f, vB_t, vB_f, encI, encB, mG, mCell, encEd]
        · simp [RenL_snoc, RenL.cl, RenV.cl, Z2r, Z2o, Z2s, Z2t, Z2p, Z2v, Z2u, Z2q, Z2w, Z2x, Z1d, Z1c, Z1b, Z19, Z18, Z1a, Z1e, Z52, Z4v, Z4z, Z3y, Z51, Z50, Z3z, Z1p, Z1q, Z1x, Z1v, Z1w, Z1u, Z1t, Z1s, Z1r, Z44, Z43, Z42, Z4e, Z4f, Z22, Z23, Z3d, Z3e, Z27, Z26, vV_t, vV_f, vB_t, vB_f, encI, encB]
        · simp [RetC, evC, RV.ev, ldC, packC, gOf_m5, cells_Ed, agg_Ed, hres2]
          first | exact .of | exact ⟨rfl, .of⟩
      · have hres2 : dform sg (.mk 6 ps pg [.mk pk qs qg pks]) st = (⟨true, e.fst, e.lst⟩, ⟨st1.by_, folF st1.fo e.lst e.fst⟩) := by rw [hres]; simp [gone, hn]
        simp [mOut, mCell, exBuild, afill, cells_Ed, solid_Ed, hn, RetNC]
        refine ⟨afOf [(4, .ptr 5 0 0)], ⟨10, gOf (mG sg true ⟨st1.by_, folF st1.fo e.lst e.fst⟩ 0 3 4 ++ [(5, some (.arr 3 [encEd ⟨true, e.fst, e.lst⟩]))])⟩, Abs.of [(0, 0), (3, 65), (4, 66), (5, 4)] [] (by omega) ⟨by simp, by simp⟩ ?_ ?_, ?_⟩
        · simp [RenL_snoc, RenL.cl, RenV.cl, Z2r, Z2o, Z2s, Z2t, Z2p, Z2v, Z2u, Z2q, Z2w, Z2x, Z1d, Z1c, Z1b, Z19, Z18, Z1a, Z1e, Z52, Z4v, Z4z, Z3y, Z51, Z50, Z3z, Z1p, Z1q, Z1x, Z1v, Z1w, Z1u, Z1t, Z1s, Z1r, Z44, Z43, Z42, Z4e, Z4f, Z22, Z23, Z3d, Z3e, Z27, Z26, vV_t, vV_f, vB_t, vB_f, encI, encB, mG, mCell, encEd]
        · simp [RenL_snoc, RenL.cl, RenV.cl, Z2r, Z2o, Z2s, Z2t, Z2p, Z2v, Z2u, Z2q, Z2w, Z2x, Z1d, Z1c, Z1b, Z19, Z18, Z1a, Z1e, Z52, Z4v, Z4z, Z3y, Z51, Z50, Z3z, Z1p, Z1q, Z1x, Z1v, Z1w, Z1u, Z1t, Z1s, Z1r, Z44, Z43, Z42, Z4e, Z4f, Z22, Z23, Z3d, Z3e, Z27, Z26, vV_t, vV_f, vB_t, vB_f, encI, encB]
        · simp [RetC, evC, RV.ev, ldC, packC, gOf_m5, cells_Ed, agg_Ed, hres2]
          first | exact .of | exact ⟨rfl, .of⟩
    · simp [c_caesuraref13_grow_form, encPat_eq, mG, mCell, exAlloc]
      refine CallM.use hqk (fun _ => .cl (cl_cons hck cl_nil)) (closed_Ed _) (id := 0) (b := 1) (c := 2) (by simp [mCell, vV_t]) (by simp [vB_t]) (by simp [vB_t]) (by simp) (by simp) ?_
      simp [mOut, mCell, exAlloc, cells_Ed, solid_Ed]
      cases hn : e.nul
      · have hres2 : dform sg (.mk 7 ps pg [.mk pk qs qg pks]) st = (⟨true, e.fst, e.lst⟩, st1) := by rw [hres]; simp [gone, hn]
        simp [mOut, mCell, exBuild, afill, cells_Ed, solid_Ed, hn, RetNC]
        refine ⟨afOf [(4, .ptr 5 0 0)], ⟨10, gOf (mG sg true st1 0 3 4 ++ [(5, some (.arr 3 [encEd ⟨true, e.fst, e.lst⟩]))])⟩, Abs.of [(0, 0), (3, 49), (4, 50), (5, 4)] [] (by omega) ⟨by simp, by simp⟩ ?_ ?_, ?_⟩
        · simp [RenL_snoc, RenL.cl, RenV.cl, Z2r, Z2o, Z2s, Z2t, Z2p, Z2v, Z2u, Z2q, Z2w, Z2x, Z1d, Z1c, Z1b, Z19, Z18, Z1a, Z1e, Z52, Z4v, Z4z, Z3y, Z51, Z50, Z3z, Z1p, Z1q, Z1x, Z1v, Z1w, Z1u, Z1t, Z1s, Z1r, Z44, Z43, Z42, Z4e, Z4f, Z22, Z23, Z3d, Z3e, Z27, Z26, vV_t, vV_f, vB_t, vB_f, encI, encB, mG, mCell, encEd]
        · simp [RenL_snoc, RenL.cl, RenV.cl, Z2r, Z2o, Z2s, Z2t, Z2p, Z2v, Z2u, Z2q, Z2w, Z2x, Z1d, Z1c, Z1b, Z19, Z18, Z1a, Z1e, Z52, Z4v, Z4z, Z3y, Z51, Z50, Z3z, Z1p, Z1q, Z1x, Z1v, Z1w, Z1u, Z1t, Z1s, Z1r, Z44, Z43, Z42, Z4e, Z4f, Z22, Z23, Z3d, Z3e, Z27, Z26, vV_t, vV_f, vB_t, vB_f, encI, encB]
        · simp [RetC, evC, RV.ev, ldC, packC, gOf_m5, cells_Ed, agg_Ed, hres2]
          first | exact .of | exact ⟨rfl, .of⟩
      · have hres2 : dform sg (.mk 7 ps pg [.mk pk qs qg pks]) st = (⟨true, e.fst, e.lst⟩, st1) := by rw [hres]; simp [gone, hn]
        simp [mOut, mCell, exBuild, afill, cells_Ed, solid_Ed, hn, RetNC]
        refine ⟨afOf [(4, .ptr 5 0 0)], ⟨10, gOf (mG sg true st1 0 3 4 ++ [(5, some (.arr 3 [encEd ⟨true, e.fst, e.lst⟩]))])⟩, Abs.of [(0, 0), (3, 49), (4, 50), (5, 4)] [] (by omega) ⟨by simp, by simp⟩ ?_ ?_, ?_⟩
        · simp [RenL_snoc, RenL.cl, RenV.cl, Z2r, Z2o, Z2s, Z2t, Z2p, Z2v, Z2u, Z2q, Z2w, Z2x, Z1d, Z1c, Z1b, Z19, Z18, Z1a, Z1e, Z52, Z4v, Z4z, Z3y, Z51, Z50, Z3z, Z1p, Z1q, Z1x, Z1v, Z1w, Z1u, Z1t, Z1s, Z1r, Z44, Z43, Z42, Z4e, Z4f, Z22, Z23, Z3d, Z3e, Z27, Z26, vV_t, vV_f, vB_t, vB_f, encI, encB, mG, mCell, encEd]
        · simp [RenL_snoc, RenL.cl, RenV.cl, Z2r, Z2o, Z2s, Z2t, Z2p, Z2v, Z2u, Z2q, Z2w, Z2x, Z1d, Z1c, Z1b, Z19, Z18, Z1a, Z1e, Z52, Z4v, Z4z, Z3y, Z51, Z50, Z3z, Z1p, Z1q, Z1x, Z1v, Z1w, Z1u, Z1t, Z1s, Z1r, Z44, Z43, Z42, Z4e, Z4f, Z22, Z23, Z3d, Z3e, Z27, Z26, vV_t, vV_f, vB_t, vB_f, encI, encB]
        · simp [RetC, evC, RV.ev, ldC, packC, gOf_m5, cells_Ed, agg_Ed, hres2]
          first | exact .of | exact ⟨rfl, .of⟩
  · have hres2 : dform sg (.mk k ps pg ks) st = (ed0 false, (deach sg ks st).2) := by
      rw [hres, gone_no]
      · rfl
      · rw [hdl]; omega
    by_cases hk1 : ks.length = 1
    · have m5 : ¬ k = 5 := by omega
      have m6 : ¬ k = 6 := by omega
      have m7 : ¬ k = 7 := by omega
      have k5' : (k == 5) = false := by simpa using m5
      have k6' : (k == 6) = false := by simpa using m6
      have k7' : (k == 7) = false := by simpa using m7
      simp [c_caesuraref13_grow_form, encPat_eq, mG, mCell, exAlloc, k1', k2', k3', k4', k5', k6', k7']
      refine CallM.use hR (fun _ => .cl (cl_cons hcp cl_nil)) (closed_Ed _) (id := 0) (b := 1) (c := 2) (by simp [mCell, vV_t]) (by simp [vB_t]) (by simp [vB_t]) (by simp) (by simp) ?_
      simp [mOut, mCell, cells_Ed, solid_Ed, RetNC]
      refine ⟨afOf [(4, .ptr 5 0 0)], ⟨10, gOf (mG sg true (deach sg ks st).2 0 3 4 ++ [(5, some (.arr 3 [encEd (ed0 false)]))])⟩, Abs.of [(0, 0), (3, 45), (4, 46), (5, 4)] [] (by omega) ⟨by simp, by simp⟩ ?_ ?_, ?_⟩
      · simp [RenL_snoc, RenL.cl, RenV.cl, Z2r, Z2o, Z2s, Z2t, Z2p, Z2v, Z2u, Z2q, Z2w, Z2x, Z1d, Z1c, Z1b, Z19, Z18, Z1a, Z1e, Z52, Z4v, Z4z, Z3y, Z51, Z50, Z3z, Z1p, Z1q, Z1x, Z1v, Z1w, Z1u, Z1t, Z1s, Z1r, Z44, Z43, Z42, Z4e, Z4f, Z22, Z23, Z3d, Z3e, Z27, Z26, vV_t, vV_f, vB_t, vB_f, encI, encB, mG, mCell, encEd]
      · simp [RenL_snoc, RenL.cl, RenV.cl, Z2r, Z2o, Z2s, Z2t, Z2p, Z2v, Z2u, Z2q, Z2w, Z2x, Z1d, Z1c, Z1b, Z19, Z18, Z1a, Z1e, Z52, Z4v, Z4z, Z3y, Z51, Z50, Z3z, Z1p, Z1q, Z1x, Z1v, Z1w, Z1u, Z1t, Z1s, Z1r, Z44, Z43, Z42, Z4e, Z4f, Z22, Z23, Z3d, Z3e, Z27, Z26, vV_t, vV_f, vB_t, vB_f, encI, encB]
      · simp [RetC, evC, RV.ev, ldC, packC, gOf_m5, cells_Ed, agg_Ed, hres2]
        first | exact .of | exact ⟨rfl, .of⟩
    · have hk2 : ((ks.length : Int) == 1) = false := by simp; omega
      have hk3 : ¬ ((ks.length : Int) = 1) := by omega
      by_cases m5 : k = 5
      · subst m5
        simp [c_caesuraref13_grow_form, encPat_eq, mG, mCell, exAlloc, hk1, hk2, hk3]
        refine CallM.use hR (fun _ => .cl (cl_cons hcp cl_nil)) (closed_Ed _) (id := 0) (b := 1) (c := 2) (by simp [mCell, vV_t]) (by simp [vB_t]) (by simp [vB_t]) (by simp) (by simp) ?_
        simp [mOut, mCell, cells_Ed, solid_Ed, RetNC]
        refine ⟨afOf [(4, .ptr 5 0 0)], ⟨10, gOf (mG sg true (deach sg ks st).2 0 3 4 ++ [(5, some (.arr 3 [encEd (ed0 false)]))])⟩, Abs.of [(0, 0), (3, 45), (4, 46), (5, 4)] [] (by omega) ⟨by simp, by simp⟩ ?_ ?_, ?_⟩
        · simp [RenL_snoc, RenL.cl, RenV.cl, Z2r, Z2o, Z2s, Z2t, Z2p, Z2v, Z2u, Z2q, Z2w, Z2x, Z1d, Z1c, Z1b, Z19, Z18, Z1a, Z1e, Z52, Z4v, Z4z, Z3y, Z51, Z50, Z3z, Z1p, Z1q, Z1x, Z1v, Z1w, Z1u, Z1t, Z1s, Z1r, Z44, Z43, Z42, Z4e, Z4f, Z22, Z23, Z3d, Z3e, Z27, Z26, vV_t, vV_f, vB_t, vB_f, encI, encB, mG, mCell, encEd]
        · simp [RenL_snoc, RenL.cl, RenV.cl, Z2r, Z2o, Z2s, Z2t, Z2p, Z2v, Z2u, Z2q, Z2w, Z2x, Z1d, Z1c, Z1b, Z19, Z18, Z1a, Z1e, Z52, Z4v, Z4z, Z3y, Z51, Z50, Z3z, Z1p, Z1q, Z1x, Z1v, Z1w, Z1u, Z1t, Z1s, Z1r, Z44, Z43, Z42, Z4e, Z4f, Z22, Z23, Z3d, Z3e, Z27, Z26, vV_t, vV_f, vB_t, vB_f, encI, encB]
        · simp [RetC, evC, RV.ev, ldC, packC, gOf_m5, cells_Ed, agg_Ed, hres2]
          first | exact .of | exact ⟨rfl, .of⟩
      have k5' : (k == 5) = false := by simpa using m5
      by_cases m6 : k = 6
      · subst m6
        simp [c_caesuraref13_grow_form, encPat_eq, mG, mCell, exAlloc, hk1, hk2, hk3]
        refine CallM.use hR (fun _ => .cl (cl_cons hcp cl_nil)) (closed_Ed _) (id := 0) (b := 1) (c := 2) (by simp [mCell, vV_t]) (by simp [vB_t]) (by simp [vB_t]) (by simp) (by simp) ?_
        simp [mOut, mCell, cells_Ed, solid_Ed, RetNC]
        refine ⟨afOf [(4, .ptr 5 0 0)], ⟨10, gOf (mG sg true (deach sg ks st).2 0 3 4 ++ [(5, some (.arr 3 [encEd (ed0 false)]))])⟩, Abs.of [(0, 0), (3, 45), (4, 46), (5, 4)] [] (by omega) ⟨by simp, by simp⟩ ?_ ?_, ?_⟩
        · simp [RenL_snoc, RenL.cl, RenV.cl, Z2r, Z2o, Z2s, Z2t, Z2p, Z2v, Z2u, Z2q, Z2w, Z2x, Z1d, Z1c, Z1b, Z19, Z18, Z1a, Z1e, Z52, Z4v, Z4z, Z3y, Z51, Z50, Z3z, Z1p, Z1q, Z1x, Z1v, Z1w, Z1u, Z1t, Z1s, Z1r, Z44, Z43, Z42, Z4e, Z4f, Z22, Z23, Z3d, Z3e, Z27, Z26, vV_t, vV_f, vB_t, vB_f, encI, encB, mG, mCell, encEd]
        · simp [RenL_snoc, RenL.cl, RenV.cl, Z2r, Z2o, Z2s, Z2t, Z2p, Z2v, Z2u, Z2q, Z2w, Z2x, Z1d, Z1c, Z1b, Z19, Z18, Z1a, Z1e, Z52, Z4v, Z4z, Z3y, Z51, Z50, Z3z, Z1p, Z1q, Z1x, Z1v, Z1w, Z1u, Z1t, Z1s, Z1r, Z44, Z43, Z42, Z4e, Z4f, Z22, Z23, Z3d, Z3e, Z27, Z26, vV_t, vV_f, vB_t, vB_f, encI, encB]
        · simp [RetC, evC, RV.ev, ldC, packC, gOf_m5, cells_Ed, agg_Ed, hres2]
          first | exact .of | exact ⟨rfl, .of⟩
      have k6' : (k == 6) = false := by simpa using m6
      by_cases m7 : k = 7
      · subst m7
        simp [c_caesuraref13_grow_form, encPat_eq, mG, mCell, exAlloc, hk1, hk2, hk3]
        refine CallM.use hR (fun _ => .cl (cl_cons hcp cl_nil)) (closed_Ed _) (id := 0) (b := 1) (c := 2) (by simp [mCell, vV_t]) (by simp [vB_t]) (by simp [vB_t]) (by simp) (by simp) ?_
        simp [mOut, mCell, cells_Ed, solid_Ed, RetNC]
        refine ⟨afOf [(4, .ptr 5 0 0)], ⟨10, gOf (mG sg true (deach sg ks st).2 0 3 4 ++ [(5, some (.arr 3 [encEd (ed0 false)]))])⟩, Abs.of [(0, 0), (3, 45), (4, 46), (5, 4)] [] (by omega) ⟨by simp, by simp⟩ ?_ ?_, ?_⟩
        · simp [RenL_snoc, RenL.cl, RenV.cl, Z2r, Z2o, Z2s, Z2t, Z2p, Z2v, Z2u, Z2q, Z2w, Z2x, Z1d, Z1c, Z1b, Z19, Z18, Z1a, Z1e, Z52, Z4v, Z4z, Z3y, Z51, Z50, Z3z, Z1p, Z1q, Z1x, Z1v, Z1w, Z1u, Z1t, Z1s, Z1r, Z44, Z43, Z42, Z4e, Z4f, Z22, Z23, Z3d, Z3e, Z27, Z26, vV_t, vV_f, vB_t, vB_f, encI, encB, mG, mCell, encEd]
        · simp [RenL_snoc, RenL.cl, RenV.cl, Z2r, Z2o, Z2s, Z2t, Z2p, Z2v, Z2u, Z2q, Z2w, Z2x, Z1d, Z1c, Z1b, Z19, Z18, Z1a, Z1e, Z52, Z4v, Z4z, Z3y, Z51, Z50, Z3z, Z1p, Z1q, Z1x, Z1v, Z1w, Z1u, Z1t, Z1s, Z1r, Z44, Z43, Z42, Z4e, Z4f, Z22, Z23, Z3d, Z3e, Z27, Z26, vV_t, vV_f, vB_t, vB_f, encI, encB]
        · simp [RetC, evC, RV.ev, ldC, packC, gOf_m5, cells_Ed, agg_Ed, hres2]
          first | exact .of | exact ⟨rfl, .of⟩
      have k7' : (k == 7) = false := by simpa using m7
      simp [c_caesuraref13_grow_form, encPat_eq, mG, mCell, exAlloc, k1', k2', k3', k4', k5', k6', k7']
      refine CallM.use hR (fun _ => .cl (cl_cons hcp cl_nil)) (closed_Ed _) (id := 0) (b := 1) (c := 2) (by simp [mCell, vV_t]) (by simp [vB_t]) (by simp [vB_t]) (by simp) (by simp) ?_
      simp [mOut, mCell, cells_Ed, solid_Ed, RetNC]
      refine ⟨afOf [(4, .ptr 5 0 0)], ⟨10, gOf (mG sg true (deach sg ks st).2 0 3 4 ++ [(5, some (.arr 3 [encEd (ed0 false)]))])⟩, Abs.of [(0, 0), (3, 45), (4, 46), (5, 4)] [] (by omega) ⟨by simp, by simp⟩ ?_ ?_, ?_⟩
      · simp [RenL_snoc, RenL.cl, RenV.cl, Z2r, Z2o, Z2s, Z2t, Z2p, Z2v, Z2u, Z2q, Z2w, Z2x, Z1d, Z1c, Z1b, Z19, Z18, Z1a, Z1e, Z52, Z4v, Z4z, Z3y, Z51, Z50, Z3z, Z1p, Z1q, Z1x, Z1v, Z1w, Z1u, Z1t, Z1s, Z1r, Z44, Z43, Z42, Z4e, Z4f, Z22, Z23, Z3d, Z3e, Z27, Z26, vV_t, vV_f, vB_t, vB_f, encI, encB, mG, mCell, encEd]
      · simp [RenL_snoc, RenL.cl, RenV.cl, Z2r, Z2o, Z2s, Z2t, Z2p, Z2v, Z2u, Z2q, Z2w, Z2x, Z1d, Z1c, Z1b, Z19, Z18, Z1a, Z1e, Z52, Z4v, Z4z, Z3y, Z51, Z50, Z3z, Z1p, Z1q, Z1x, Z1v, Z1w, Z1u, Z1t, Z1s, Z1r, Z44, Z43, Z42, Z4e, Z4f, Z22, Z23, Z3d, Z3e, Z27, Z26, vV_t, vV_f, vB_t, vB_f, encI, encB]
      · simp [RetC, evC, RV.ev, ldC, packC, gOf_m5, cells_Ed, agg_Ed, hres2]
        first | exact .of | exact ⟨rfl, .of⟩
theorem formD_step {P : Program} (hm : P.follows .mixedOrders = true) {sg : Int} {ff fp fb fa fr : FuncId} (F : GrowFns P sg ff fp fb fa fr) (h : IsC P ff (c_caesuraref13_grow_form fp ff fb fa fr) [.c 4 (some 3)] 2)
    {k : Int} {ps : List Rg} {pg : List Int} {ks : List Pat} (hks : ks.length ≤ 100000) (hpg : pg.length ≤ 100000) (hq : ∀ q ∈ ks, FormOkD P ff sg q) : FormOkD P ff sg (.mk k ps pg ks) := by
  intro st hst hb
  have hbl : st.by_.length ≤ 10000 := by omega
  have hcp := closed_Pat' k ps pg ks
  by_cases k1 : k = 1
  · subst k1
    refine h.callB hm rfl ?_
    have hres : dform sg (.mk 1 ps pg ks) st = (⟨true, [], []⟩, st) := by simp [dform]
    simp [c_caesuraref13_grow_form, encPat_eq, mG, mCell, exAlloc, exBuild, afill, RetNC]
    refine ⟨afOf [(4, .ptr 5 0 0)], ⟨10, gOf (mG sg true st 0 3 4 ++ [(5, some (.arr 3 [encEd ⟨true, [], []⟩]))])⟩, Abs.of [(0, 0), (3, 1), (4, 2), (5, 4)] [] (by omega) ⟨by simp, by simp⟩ ?_ ?_, ?_⟩
    · simp [RenL_snoc, RenL.cl, RenV.cl, Z2r, Z2o, Z2s, Z2t, Z2p, Z2v, Z2u, Z2q, Z2w, Z2x, Z1d, Z1c, Z1b, Z19, Z18, Z1a, Z1e, Z52, Z4v, Z4z, Z3y, Z51, Z50, Z3z, Z1p, Z1q, Z1x, Z1v, Z1w, Z1u, Z1t, Z1s, Z1r, Z44, Z43, Z42, Z4e, Z4f, Z22, Z23, Z3d, Z3e, Z27, Z26, vV_t, vV_f, vB_t, vB_f, encI, encB, mG, mCell, encEd]
      exact .loose (by simp)
    · simp [RenL_snoc, RenL.cl, RenV.cl, Z2r, Z2o, Z2s, Z2t, Z2p, Z2v, Z2u, Z2q, Z2w, Z2x, Z1d, Z1c, Z1b, Z19, Z18, Z1a, Z1e, Z52, Z4v, Z4z, Z3y, Z51, Z50, Z3z, Z1p, Z1q, Z1x, Z1v, Z1w, Z1u, Z1t, Z1s, Z1r, Z44, Z43, Z42, Z4e, Z4f, Z22, Z23, Z3d, Z3e, Z27, Z26, vV_t, vV_f, vB_t, vB_f, encI, encB]
    · simp [RetC, evC, RV.ev, ldC, packC, gOf_m5, cells_Ed, agg_Ed, hres]
      first | exact .of | exact ⟨rfl, .of⟩
  have k1' : (k == 1) = false := by simpa using k1
  by_cases k2 : k = 2
  · subst k2
    refine h.callB hm rfl ?_
    have hres : dform sg (.mk 2 ps pg ks) st = (⟨false, [(st.by_.length : Int)], [(st.by_.length : Int)]⟩, ⟨st.by_ ++ [leafF sg pg], st.fo ++ [[]]⟩) := by simp [dform]
    simp [c_caesuraref13_grow_form, encPat_eq, mG, mCell, exAlloc, exBuild, afill, exNil, c_gf_s]
    refine AWb_for pg.length gfI (gsA sg st pg) 10 (gsG sg st (.mk 2 ps pg ks)) () trivial ?_ ?_
    · refine Abs.of [(0, 0), (3, 1), (4, 2), (5, 3), (6, 4)] [] (by omega) ⟨by simp, by simp⟩ ?_ ?_
      · simp [RenL_snoc, RenL.cl, RenV.cl, Z2r, Z2o, Z2s, Z2t, Z2p, Z2v, Z2u, Z2q, Z2w, Z2x, Z1d, Z1c, Z1b, Z19, Z18, Z1a, Z1e, Z52, Z4v, Z4z, Z3y, Z51, Z50, Z3z, Z1p, Z1q, Z1x, Z1v, Z1w, Z1u, Z1t, Z1s, Z1r, Z44, Z43, Z42, Z4e, Z4f, Z22, Z23, Z3d, Z3e, Z27, Z26, vV_t, vV_f, vB_t, vB_f, encI, encB, gsG, mG, mCell, ed0, encEd, encPat_eq, closed_Rs, closed_Patx]
        exact .loose (by simp)
      · simp [RenL_snoc, RenL.cl, RenV.cl, Z2r, Z2o, Z2s, Z2t, Z2p, Z2v, Z2u, Z2q, Z2w, Z2x, Z1d, Z1c, Z1b, Z19, Z18, Z1a, Z1e, Z52, Z4v, Z4z, Z3y, Z51, Z50, Z3z, Z1p, Z1q, Z1x, Z1v, Z1w, Z1u, Z1t, Z1s, Z1r, Z44, Z43, Z42, Z4e, Z4f, Z22, Z23, Z3d, Z3e, Z27, Z26, vV_t, vV_f, vB_t, vB_f, encI, encB, gsA]
        exact .loose (by simp)
    · rintro i _ hi _
      by_cases hlt : i < pg.length
      · have hsk : pg[i]? = some pg[i] := List.getElem?_eq_getElem hlt
        have hsd : pg.getD i 0 = pg[i] := getD_I hlt
        have htk : pg.take (i + 1) = pg.take i ++ [pg[i]] := by rw [List.take_add_one, hsk]; rfl
        have hfo : ((pg.take (i + 1)).filter (kpI sg)).foldl putF [] = if kpI sg pg[i] = true then putF (((pg.take i).filter (kpI sg)).foldl putF []) pg[i] else ((pg.take i).filter (kpI sg)).foldl putF [] := by
          rw [htk, List.filter_append, List.foldl_append]
          by_cases hkp : kpI sg pg[i] = true
          · rw [if_pos hkp]; simp [hkp]
          · rw [if_neg hkp]; simp [hkp]
        have hle : (((pg.take i).filter (kpI sg)).foldl putF []).length ≤ 100000 := by
          have h1 := foldPut_len ((pg.take i).filter (kpI sg)) []
          have h2 := List.length_filter_le (kpI sg) (pg.take i)
          rw [List.length_take] at h2
          simp only [List.length_nil] at h1
          omega
        have hput := F.put (((pg.take i).filter (kpI sg)).foldl putF []) pg[i] (by omega)
        generalize hgv : pg[i] = v at *
        have fin : ∀ (f : AF) (S : St), (∀ (acc : List Int), acc = ((pg.take (i + 1)).filter (kpI sg)).foldl putF [] → True) → True := fun _ _ _ => trivial
        by_cases h1 : 0 ≤ v
        · by_cases h2 : v < sg
          · have hkp : kpI sg v = true := by simp [kpI, h1, h2]
            rw [if_pos hkp] at hfo
            simp [gsA, gsG, mG, mCell, hlt, hsd, hgv, h1, h2, encPat_eq, exNil]
            refine CallR.pure hput (cl_cons (Z2s _) (cl_cons (Z2r _) cl_nil)) (Z2s _) ?_
            simp
            rw [wrap_in _ (by omega)]
            refine ⟨hlt, (), trivial, Abs.of [(0, 0), (3, 3), (4, 4), (5, 5), (6, 6)] [] (by omega) ⟨by simp, by simp⟩ ?_ ?_⟩
            · simp [RenL_snoc, RenL.cl, RenV.cl, Z2r, Z2o, Z2s, Z2t, Z2p, Z2v, Z2u, Z2q, Z2w, Z2x, Z1d, Z1c, Z1b, Z19, Z18, Z1a, Z1e, Z52, Z4v, Z4z, Z3y, Z51, Z50, Z3z, Z1p, Z1q, Z1x, Z1v, Z1w, Z1u, Z1t, Z1s, Z1r, Z44, Z43, Z42, Z4e, Z4f, Z22, Z23, Z3d, Z3e, Z27, Z26, vV_t, vV_f, vB_t, vB_f, encI, encB, gsG, mG, mCell, encPat_eq, closed_Rs, closed_Patx, closed_Ed]
            · simp [RenL_snoc, RenL.cl, RenV.cl, Z2r, Z2o, Z2s, Z2t, Z2p, Z2v, Z2u, Z2q, Z2w, Z2x, Z1d, Z1c, Z1b, Z19, Z18, Z1a, Z1e, Z52, Z4v, Z4z, Z3y, Z51, Z50, Z3z, Z1p, Z1q, Z1x, Z1v, Z1w, Z1u, Z1t, Z1s, Z1r, Z44, Z43, Z42, Z4e, Z4f, Z22, Z23, Z3d, Z3e, Z27, Z26, vV_t, vV_f, vB_t, vB_f, encI, encB, gsA, hfo]
          · have hkp : ¬ kpI sg v = true := by simp [kpI, h2]
            rw [if_neg hkp] at hfo
            simp [gsA, gsG, mG, mCell, hlt, hsd, hgv, h1, h2, encPat_eq, exNil]
            rw [wrap_in _ (by omega)]
            refine ⟨hlt, (), trivial, Abs.of [(0, 0), (3, 3), (4, 4), (5, 5), (6, 6)] [] (by omega) ⟨by simp, by simp⟩ ?_ ?_⟩
            · simp [RenL_snoc, RenL.cl, RenV.cl, Z2r, Z2o, Z2s, Z2t, Z2p, Z2v, Z2u, Z2q, Z2w, Z2x, Z1d, Z1c, Z1b, Z19, Z18, Z1a, Z1e, Z52, Z4v, Z4z, Z3y, Z51, Z50, Z3z, Z1p, Z1q, Z1x, Z1v, Z1w, Z1u, Z1t, Z1s, Z1r, Z44, Z43, Z42, Z4e, Z4f, Z22, Z23, Z3d, Z3e, Z27, Z26, vV_t, vV_f, vB_t, vB_f, encI, encB, gsG, mG, mCell, encPat_eq, closed_Rs, closed_Patx, closed_Ed]
            · simp [RenL_snoc, RenL.cl, RenV.cl, Z2r, Z2o, Z2s, Z2t, Z2p, Z2v, Z2u, Z2q, Z2w, Z2x, Z1d, Z1c, Z1b, Z19, Z18, Z1a, Z1e, Z52, Z4v, Z4z, Z3y, Z51, Z50, Z3z, Z1p, Z1q, Z1x, Z1v, Z1w, Z1u, Z1t, Z1s, Z1r, Z44, Z43, Z42, Z4e, Z4f, Z22, Z23, Z3d, Z3e, Z27, Z26, vV_t, vV_f, vB_t, vB_f, encI, encB, gsA, hfo]
        · have hkp : ¬ kpI sg v = true := by simp [kpI, h1]
          rw [if_neg hkp] at hfo
          simp [gsA, gsG, mG, mCell, hlt, hsd, hgv, h1, encPat_eq, exNil]
          rw [wrap_in _ (by omega)]
          refine ⟨hlt, (), trivial, Abs.of [(0, 0), (3, 3), (4, 4), (5, 5), (6, 6)] [] (by omega) ⟨by simp, by simp⟩ ?_ ?_⟩
          · simp [RenL_snoc, RenL.cl, RenV.cl, Z2r, Z2o, Z2s, Z2t, Z2p, Z2v, Z2u, Z2q, Z2w, Z2x, Z1d, Z1c, Z1b, Z19, Z18, Z1a, Z1e, Z52, Z4v, Z4z, Z3y, Z51, Z50, Z3z, Z1p, Z1q, Z1x, Z1v, Z1w, Z1u, Z1t, Z1s, Z1r, Z44, Z43, Z42, Z4e, Z4f, Z22, Z23, Z3d, Z3e, Z27, Z26, vV_t, vV_f, vB_t, vB_f, encI, encB, gsG, mG, mCell, encPat_eq, closed_Rs, closed_Patx, closed_Ed]
          · simp [RenL_snoc, RenL.cl, RenV.cl, Z2r, Z2o, Z2s, Z2t, Z2p, Z2v, Z2u, Z2q, Z2w, Z2x, Z1d, Z1c, Z1b, Z19, Z18, Z1a, Z1e, Z52, Z4v, Z4z, Z3y, Z51, Z50, Z3z, Z1p, Z1q, Z1x, Z1v, Z1w, Z1u, Z1t, Z1s, Z1r, Z44, Z43, Z42, Z4e, Z4f, Z22, Z23, Z3d, Z3e, Z27, Z26, vV_t, vV_f, vB_t, vB_f, encI, encB, gsA, hfo]
      · have hke : i = pg.length := by omega
        subst hke
        have hlf : (pg.filter (kpI sg)).foldl putF [] = leafF sg pg := putAll_eq _
        have ok1 : appOk 24 st.by_.length 1 := by unfold appOk; omega
        have ok2 : appOk 24 st.fo.length 1 := by unfold appOk; have := hst.len; omega
        simp [gsA, gsG, mG, mCell, hlf, ok1, ok2, exNil, exBuild, afill, encPat_eq, cells_Ed, RetNC]
        refine ⟨afOf [(4, .ptr 5 0 0)], ⟨10, gOf (mG sg true ⟨st.by_ ++ [leafF sg pg], st.fo ++ [[]]⟩ 0 3 4 ++ [(5, some (.arr 3 [encEd ⟨false, [(st.by_.length : Int)], [(st.by_.length : Int)]⟩]))])⟩, Abs.of [(0, 0), (3, 24), (4, 31), (5, 6)] [] (by omega) ⟨by simp, by simp⟩ ?_ ?_, ?_⟩
        · simp [RenL_snoc, RenL.cl, RenV.cl, Z2r, Z2o, Z2s, Z2t, Z2p, Z2v, Z2u, Z2q, Z2w, Z2x, Z1d, Z1c, Z1b, Z19, Z18, Z1a, Z1e, Z52, Z4v, Z4z, Z3y, Z51, Z50, Z3z, Z1p, Z1q, Z1x, Z1v, Z1w, Z1u, Z1t, Z1s, Z1r, Z44, Z43, Z42, Z4e, Z4f, Z22, Z23, Z3d, Z3e, Z27, Z26, vV_t, vV_f, vB_t, vB_f, encI, encB, mG, mCell, encEd]
          refine ⟨?_, ?_⟩ <;> first | exact .loose (cl_cons (Z2x _) cl_nil) | exact .loose (by simp)
        · simp [RenL_snoc, RenL.cl, RenV.cl, Z2r, Z2o, Z2s, Z2t, Z2p, Z2v, Z2u, Z2q, Z2w, Z2x, Z1d, Z1c, Z1b, Z19, Z18, Z1a, Z1e, Z52, Z4v, Z4z, Z3y, Z51, Z50, Z3z, Z1p, Z1q, Z1x, Z1v, Z1w, Z1u, Z1t, Z1s, Z1r, Z44, Z43, Z42, Z4e, Z4f, Z22, Z23, Z3d, Z3e, Z27, Z26, vV_t, vV_f, vB_t, vB_f, encI, encB]
        · simp [RetC, evC, RV.ev, ldC, packC, gOf_m5, cells_Ed, agg_Ed, hres]
          first | exact .of | exact ⟨rfl, .of⟩
  have k2' : (k == 2) = false := by simpa using k2
  have hcn : cntP (.mk k ps pg ks) = cntL ks := by simp only [cntP]; rw [if_neg k1, if_neg k2]
  by_cases k3 : k = 3
  · subst k3
    refine h.callB hm rfl ?_
    simp [c_caesuraref13_grow_form, encPat_eq, mG, mCell, exAlloc, exBuild, afill, exNil, c_gf_j]
    have hres : dform sg (.mk 3 ps pg ks) st = djoin sg ks (ed0 true) st := by simp [dform, ed0]
    refine AWb_for ks.length gfI gjA 10 (gjG sg st (.mk 3 ps pg ks) ks) () trivial ?_ ?_
    · refine Abs.of [(0, 0), (3, 1), (4, 2), (5, 3), (6, 4), (7, 18)] [] (by omega) ⟨by simp, by simp⟩ ?_ ?_
      · simp [RenL_snoc, RenL.cl, RenV.cl, Z2r, Z2o, Z2s, Z2t, Z2p, Z2v, Z2u, Z2q, Z2w, Z2x, Z1d, Z1c, Z1b, Z19, Z18, Z1a, Z1e, Z52, Z4v, Z4z, Z3y, Z51, Z50, Z3z, Z1p, Z1q, Z1x, Z1v, Z1w, Z1u, Z1t, Z1s, Z1r, Z44, Z43, Z42, Z4e, Z4f, Z22, Z23, Z3d, Z3e, Z27, Z26, vV_t, vV_f, vB_t, vB_f, encI, encB, gjG, mG, mCell, ed0, encEd, djoin, encPat_eq, closed_Rs, closed_Patx]
        exact .loose (by simp)
      · simp [RenL_snoc, RenL.cl, RenV.cl, Z2r, Z2o, Z2s, Z2t, Z2p, Z2v, Z2u, Z2q, Z2w, Z2x, Z1d, Z1c, Z1b, Z19, Z18, Z1a, Z1e, Z52, Z4v, Z4z, Z3y, Z51, Z50, Z3z, Z1p, Z1q, Z1x, Z1v, Z1w, Z1u, Z1t, Z1s, Z1r, Z44, Z43, Z42, Z4e, Z4f, Z22, Z23, Z3d, Z3e, Z27, Z26, vV_t, vV_f, vB_t, vB_f, encI, encB, gjA]
    · rintro i _ hi _
      by_cases hlt : i < ks.length
      · have hsk : ks[i]? = some ks[i] := List.getElem?_eq_getElem hlt
        have htk : ks.take (i + 1) = ks.take i ++ [ks[i]] := by rw [List.take_add_one, hsk]; rfl
        have hsn := djoin_snoc sg (ks.take i) ks[i] (ed0 true) st
        rw [← htk] at hsn
        obtain ⟨n1, n2, n3⟩ := djoin_N sg (ks.take i) (ed0 true) st hst ⟨UpN.nil, UpN.nil⟩
        have hcl := cntL_take hlt
        obtain ⟨m1, m2, m3⟩ := dform_N sg ks[i] (djoin sg (ks.take i) (ed0 true) st).2 n1
        have hqk := hq _ (List.getElem_mem hlt) (djoin sg (ks.take i) (ed0 true) st).2 n1 (by omega)
        have hbb := F.behind (djoin sg (ks.take i) (ed0 true) st).1.lst (dform sg ks[i] (djoin sg (ks.take i) (ed0 true) st).2).1.fst (dform sg ks[i] (djoin sg (ks.take i) (ed0 true) st).2).2 m1 (n2.l.mono (by omega)) m2.f (by omega)
        rcases hpq : ks[i] with ⟨pk, qs, qg, pks⟩
        rw [hpq] at hqk hsn hbb m1 m2 m3 hcl
        simp only [encPat_eq, encI] at hqk
        have hck := closed_Pat' pk qs qg pks
        generalize hac : djoin sg (ks.take i) (ed0 true) st = ac at *
        obtain ⟨acc, st1⟩ := ac
        simp only at n1 n2 n3 m1 m2 m3 hqk hbb hsn
        generalize hfm : dform sg (.mk pk qs qg pks) st1 = fm at *
        obtain ⟨e, st2⟩ := fm
        simp only at m1 m2 m3 hqk hbb hsn
        have l1 := m2.f.len
        have l2 := m2.l.len
        have l3 := n2.f.len
        have l4 := n2.l.len
        have D1 := F.all acc.fst e.fst n2.f.1 (by omega)
        have D2 := F.all acc.lst e.lst n2.l.1 (by omega)
        have hsl := setF_up m2.l.1
        simp [gjA, gjG, mG, mCell, hac, hlt, hsk, hpq, encPat_eq]
        refine CallM.use hqk (fun _ => .cl (cl_cons hck cl_nil)) (closed_Ed _) (id := 0) (b := 3) (c := 4) (by simp [mCell, vV_t]) (by simp [vB_t]) (by simp [vB_t]) (by simp) (by simp) ?_
        simp [mOut, exAlloc, cells_Ed, solid_Ed]
        refine CallM.use hbb (fun _ => .cl (cl_cons (Z2s _) (cl_cons (Z2s _) cl_nil))) (.tup _ (by simp)) (id := 0) (b := 24) (c := 25) (by simp [mCell, vV_t]) (by simp [vB_t]) (by simp [vB_t]) (by simp) (by simp) ?_
        cases hn1 : acc.nul <;> cases hn2 : e.nul
        · simp [mOut, cells_Ed, solid_Ed, hn1, hn2]
          rw [wrap_in _ (by omega)]
          refine ⟨hlt, (), trivial, Abs.of [(0, 0), (3, 37), (4, 38), (5, 5), (6, 6), (7, 7)] [] (by omega) ⟨by simp, by simp⟩ ?_ ?_⟩
          · simp [RenL_snoc, RenL.cl, RenV.cl, Z2r, Z2o, Z2s, Z2t, Z2p, Z2v, Z2u, Z2q, Z2w, Z2x, Z1d, Z1c, Z1b, Z19, Z18, Z1a, Z1e, Z52, Z4v, Z4z, Z3y, Z51, Z50, Z3z, Z1p, Z1q, Z1x, Z1v, Z1w, Z1u, Z1t, Z1s, Z1r, Z44, Z43, Z42, Z4e, Z4f, Z22, Z23, Z3d, Z3e, Z27, Z26, vV_t, vV_f, vB_t, vB_f, encI, encB, gjG, mG, mCell, hsn, catEd, hn1, hn2, hsl, encEd, encPat_eq, closed_Rs, closed_Patx]
          · simp [RenL_snoc, RenL.cl, RenV.cl, Z2r, Z2o, Z2s, Z2t, Z2p, Z2v, Z2u, Z2q, Z2w, Z2x, Z1d, Z1c, Z1b, Z19, Z18, Z1a, Z1e, Z52, Z4v, Z4z, Z3y, Z51, Z50, Z3z, Z1p, Z1q, Z1x, Z1v, Z1w, Z1u, Z1t, Z1s, Z1r, Z44, Z43, Z42, Z4e, Z4f, Z22, Z23, Z3d, Z3e, Z27, Z26, vV_t, vV_f, vB_t, vB_f, encI, encB, gjA]
        · simp [mOut, cells_Ed, solid_Ed, hn1, hn2]
          refine CallR.pure D2 (cl_cons (Z2s _) (cl_cons (Z2s _) cl_nil)) (Z2s _) ?_
          simp [cells_Ed, solid_Ed, Z2c, Z4i, hn1, hn2]
          rw [wrap_in _ (by omega)]
          refine ⟨hlt, (), trivial, Abs.of [(0, 0), (3, 37), (4, 38), (5, 5), (6, 6), (7, 7)] [] (by omega) ⟨by simp, by simp⟩ ?_ ?_⟩
          · simp [RenL_snoc, RenL.cl, RenV.cl, Z2r, Z2o, Z2s, Z2t, Z2p, Z2v, Z2u, Z2q, Z2w, Z2x, Z1d, Z1c, Z1b, Z19, Z18, Z1a, Z1e, Z52, Z4v, Z4z, Z3y, Z51, Z50, Z3z, Z1p, Z1q, Z1x, Z1v, Z1w, Z1u, Z1t, Z1s, Z1r, Z44, Z43, Z42, Z4e, Z4f, Z22, Z23, Z3d, Z3e, Z27, Z26, vV_t, vV_f, vB_t, vB_f, encI, encB, gjG, mG, mCell, hsn, catEd, hn1, hn2, hsl, encEd, encPat_eq, closed_Rs, closed_Patx]
          · simp [RenL_snoc, RenL.cl, RenV.cl, Z2r, Z2o, Z2s, Z2t, Z2p, Z2v, Z2u, Z2q, Z2w, Z2x, Z1d, Z1c, Z1b, Z19, Z18, Z1a, Z1e, Z52, Z4v, Z4z, Z3y, Z51, Z50, Z3z, Z1p, Z1q, Z1x, Z1v, Z1w, Z1u, Z1t, Z1s, Z1r, Z44, Z43, Z42, Z4e, Z4f, Z22, Z23, Z3d, Z3e, Z27, Z26, vV_t, vV_f, vB_t, vB_f, encI, encB, gjA]
        · simp [mOut, cells_Ed, solid_Ed, hn1, hn2]
          refine CallR.pure D1 (cl_cons (Z2s _) (cl_cons (Z2s _) cl_nil)) (Z2s _) ?_
          simp [cells_Ed, solid_Ed, Z2c, Z4i, hn1, hn2]
          rw [wrap_in _ (by omega)]
          refine ⟨hlt, (), trivial, Abs.of [(0, 0), (3, 37), (4, 38), (5, 5), (6, 6), (7, 7)] [] (by omega) ⟨by simp, by simp⟩ ?_ ?_⟩
          · simp [RenL_snoc, RenL.cl, RenV.cl, Z2r, Z2o, Z2s, Z2t, Z2p, Z2v, Z2u, Z2q, Z2w, Z2x, Z1d, Z1c, Z1b, Z19, Z18, Z1a, Z1e, Z52, Z4v, Z4z, Z3y, Z51, Z50, Z3z, Z1p, Z1q, Z1x, Z1v, Z1w, Z1u, Z1t, Z1s, Z1r, Z44, Z43, Z42, Z4e, Z4f, Z22, Z23, Z3d, Z3e, Z27, Z26, vV_t, vV_f, vB_t, vB_f, encI, encB, gjG, mG, mCell, hsn, catEd, hn1, hn2, hsl, encEd, encPat_eq, closed_Rs, closed_Patx]
          · simp [RenL_snoc, RenL.cl, RenV.cl, Z2r, Z2o, Z2s, Z2t, Z2p, Z2v, Z2u, Z2q, Z2w, Z2x, Z1d, Z1c, Z1b, Z19, Z18, Z1a, Z1e, Z52, Z4v, Z4z, Z3y, Z51, Z50, Z3z, Z1p, Z1q, Z1x, Z1v, Z1w, Z1u, Z1t, Z1s, Z1r, Z44, Z43, Z42, Z4e, Z4f, Z22, Z23, Z3d, Z3e, Z27, Z26, vV_t, vV_f, vB_t, vB_f, encI, encB, gjA]
        · simp [mOut, cells_Ed, solid_Ed, hn1, hn2]
          refine CallR.pure D1 (cl_cons (Z2s _) (cl_cons (Z2s _) cl_nil)) (Z2s _) ?_
          simp [cells_Ed, solid_Ed, Z2c, Z4i, hn1, hn2]
          refine CallR.pure D2 (cl_cons (Z2s _) (cl_cons (Z2s _) cl_nil)) (Z2s _) ?_
          simp [cells_Ed, solid_Ed, Z2c, Z4i, hn1, hn2]
          rw [wrap_in _ (by omega)]
          refine ⟨hlt, (), trivial, Abs.of [(0, 0), (3, 37), (4, 38), (5, 5), (6, 6), (7, 7)] [] (by omega) ⟨by simp, by simp⟩ ?_ ?_⟩
          · simp [RenL_snoc, RenL.cl, RenV.cl, Z2r, Z2o, Z2s, Z2t, Z2p, Z2v, Z2u, Z2q, Z2w, Z2x, Z1d, Z1c, Z1b, Z19, Z18, Z1a, Z1e, Z52, Z4v, Z4z, Z3y, Z51, Z50, Z3z, Z1p, Z1q, Z1x, Z1v, Z1w, Z1u, Z1t, Z1s, Z1r, Z44, Z43, Z42, Z4e, Z4f, Z22, Z23, Z3d, Z3e, Z27, Z26, vV_t, vV_f, vB_t, vB_f, encI, encB, gjG, mG, mCell, hsn, catEd, hn1, hn2, hsl, encEd, encPat_eq, closed_Rs, closed_Patx]
          · simp [RenL_snoc, RenL.cl, RenV.cl, Z2r, Z2o, Z2s, Z2t, Z2p, Z2v, Z2u, Z2q, Z2w, Z2x, Z1d, Z1c, Z1b, Z19, Z18, Z1a, Z1e, Z52, Z4v, Z4z, Z3y, Z51, Z50, Z3z, Z1p, Z1q, Z1x, Z1v, Z1w, Z1u, Z1t, Z1s, Z1r, Z44, Z43, Z42, Z4e, Z4f, Z22, Z23, Z3d, Z3e, Z27, Z26, vV_t, vV_f, vB_t, vB_f, encI, encB, gjA]
      · have hke : i = ks.length := by omega
        subst hke
        simp [gjA, gjG, mG, mCell, cells_Ed, solid_Ed, encPat_eq, RetNC]
        refine ⟨afOf [(4, .ptr 5 0 0)], ⟨10, gOf (mG sg true (djoin sg ks (ed0 true) st).2 0 3 4 ++ [(5, some (.arr 3 [encEd (djoin sg ks (ed0 true) st).1]))])⟩, Abs.of [(0, 0), (3, 3), (4, 4), (5, 6)] [] (by omega) ⟨by simp, by simp⟩ ?_ ?_, ?_⟩
        · simp [RenL_snoc, RenL.cl, RenV.cl, Z2r, Z2o, Z2s, Z2t, Z2p, Z2v, Z2u, Z2q, Z2w, Z2x, Z1d, Z1c, Z1b, Z19, Z18, Z1a, Z1e, Z52, Z4v, Z4z, Z3y, Z51, Z50, Z3z, Z1p, Z1q, Z1x, Z1v, Z1w, Z1u, Z1t, Z1s, Z1r, Z44, Z43, Z42, Z4e, Z4f, Z22, Z23, Z3d, Z3e, Z27, Z26, vV_t, vV_f, vB_t, vB_f, encI, encB, mG, mCell, encEd]
        · simp [RenL_snoc, RenL.cl, RenV.cl, Z2r, Z2o, Z2s, Z2t, Z2p, Z2v, Z2u, Z2q, Z2w, Z2x, Z1d, Z1c, Z1b, Z19, Z18, Z1a, Z1e, Z52, Z4v, Z4z, Z3y, Z51, Z50, Z3z, Z1p, Z1q, Z1x, Z1v, Z1w, Z1u, Z1t, Z1s, Z1r, Z44, Z43, Z42, Z4e, Z4f, Z22, Z23, Z3d, Z3e, Z27, Z26, vV_t, vV_f, vB_t, vB_f, encI, encB]
        · simp [RetC, evC, RV.ev, ldC, packC, gOf_m5, cells_Ed, agg_Ed, hres]
          first | exact .of | exact ⟨rfl, .of⟩
  have k3' : (k == 3) = false := by simpa using k3
  by_cases k4 : k = 4
  · subst k4
    refine h.callB hm rfl ?_
    simp [c_caesuraref13_grow_form, encPat_eq, mG, mCell, exAlloc, exBuild, afill, exNil, c_gf_o]
    have hres : dform sg (.mk 4 ps pg ks) st = dor sg ks (ed0 false) st := by simp [dform, ed0]
    refine AWb_for ks.length gfI goA 10 (goG sg st (.mk 4 ps pg ks) ks) () trivial ?_ ?_
    · refine Abs.of [(0, 0), (3, 1), (4, 2), (5, 3), (6, 4), (7, 21)] [] (by omega) ⟨by simp, by simp⟩ ?_ ?_
      · simp [RenL_snoc, RenL.cl, RenV.cl, Z2r, Z2o, Z2s, Z2t, Z2p, Z2v, Z2u, Z2q, Z2w, Z2x, Z1d, Z1c, Z1b, Z19, Z18, Z1a, Z1e, Z52, Z4v, Z4z, Z3y, Z51, Z50, Z3z, Z1p, Z1q, Z1x, Z1v, Z1w, Z1u, Z1t, Z1s, Z1r, Z44, Z43, Z42, Z4e, Z4f, Z22, Z23, Z3d, Z3e, Z27, Z26, vV_t, vV_f, vB_t, vB_f, encI, encB, goG, mG, mCell, ed0, encEd, dor, encPat_eq, closed_Rs, closed_Patx]
        exact .loose (by simp)
      · simp [RenL_snoc, RenL.cl, RenV.cl, Z2r, Z2o, Z2s, Z2t, Z2p, Z2v, Z2u, Z2q, Z2w, Z2x, Z1d, Z1c, Z1b, Z19, Z18, Z1a, Z1e, Z52, Z4v, Z4z, Z3y, Z51, Z50, Z3z, Z1p, Z1q, Z1x, Z1v, Z1w, Z1u, Z1t, Z1s, Z1r, Z44, Z43, Z42, Z4e, Z4f, Z22, Z23, Z3d, Z3e, Z27, Z26, vV_t, vV_f, vB_t, vB_f, encI, encB, goA]
    · rintro i _ hi _
      by_cases hlt : i < ks.length
      · have hsk : ks[i]? = some ks[i] := List.getElem?_eq_getElem hlt
        have htk : ks.take (i + 1) = ks.take i ++ [ks[i]] := by rw [List.take_add_one, hsk]; rfl
        have hsn := dor_snoc sg (ks.take i) ks[i] (ed0 false) st
        rw [← htk] at hsn
        obtain ⟨n1, n2, n3⟩ := dor_N sg (ks.take i) (ed0 false) st hst ⟨UpN.nil, UpN.nil⟩
        have hcl := cntL_take hlt
        obtain ⟨m1, m2, m3⟩ := dform_N sg ks[i] (dor sg (ks.take i) (ed0 false) st).2 n1
        have hqk := hq _ (List.getElem_mem hlt) (dor sg (ks.take i) (ed0 false) st).2 n1 (by omega)
        rcases hpq : ks[i] with ⟨pk, qs, qg, pks⟩
        rw [hpq] at hqk hsn m1 m2 m3 hcl
        simp only [encPat_eq, encI] at hqk
        have hck := closed_Pat' pk qs qg pks
        generalize hac : dor sg (ks.take i) (ed0 false) st = ac at *
        obtain ⟨acc, st1⟩ := ac
        simp only at n1 n2 n3 m1 m2 m3 hqk hsn
        generalize hfm : dform sg (.mk pk qs qg pks) st1 = fm at *
        obtain ⟨e, st2⟩ := fm
        simp only at m1 m2 m3 hqk hsn
        have l1 := m2.f.len
        have l2 := m2.l.len
        have l3 := n2.f.len
        have l4 := n2.l.len
        have D1 := fun n' g' => CallD.cd (S := ⟨n', g'⟩) (F.all acc.fst e.fst n2.f.1 (by omega)) (cl_cons (Z2s _) (cl_cons (Z2s _) cl_nil)) (Z2s _)
        have D2 := fun n' g' => CallD.cd (S := ⟨n', g'⟩) (F.all acc.lst e.lst n2.l.1 (by omega)) (cl_cons (Z2s _) (cl_cons (Z2s _) cl_nil)) (Z2s _)
        simp [goA, goG, mG, mCell, hac, hlt, hsk, hpq, encPat_eq]
        refine CallM.use hqk (fun _ => .cl (cl_cons hck cl_nil)) (closed_Ed _) (id := 0) (b := 3) (c := 4) (by simp [mCell, vV_t]) (by simp [vB_t]) (by simp [vB_t]) (by simp) (by simp) ?_
        cases hn : acc.nul <;>
        · simp [mOut, exAlloc, cells_Ed, solid_Ed, hn]
          refine ⟨_, ⟨_, D1 _ _⟩, _, ⟨_, D2 _ _⟩, ?_⟩
          simp [exBuild, afill, Z2c, Z4i, cells_Ed]
          rw [wrap_in _ (by omega)]
          refine ⟨hlt, (), trivial, Abs.of [(0, 0), (3, 24), (4, 25), (5, 5), (6, 6), (7, 7)] [] (by omega) ⟨by simp, by simp⟩ ?_ ?_⟩
          · simp [RenL_snoc, RenL.cl, RenV.cl, Z2r, Z2o, Z2s, Z2t, Z2p, Z2v, Z2u, Z2q, Z2w, Z2x, Z1d, Z1c, Z1b, Z19, Z18, Z1a, Z1e, Z52, Z4v, Z4z, Z3y, Z51, Z50, Z3z, Z1p, Z1q, Z1x, Z1v, Z1w, Z1u, Z1t, Z1s, Z1r, Z44, Z43, Z42, Z4e, Z4f, Z22, Z23, Z3d, Z3e, Z27, Z26, vV_t, vV_f, vB_t, vB_f, encI, encB, goG, mG, mCell, hsn, altEd, hn, encEd, encPat_eq, closed_Rs, closed_Patx]
          · simp [RenL_snoc, RenL.cl, RenV.cl, Z2r, Z2o, Z2s, Z2t, Z2p, Z2v, Z2u, Z2q, Z2w, Z2x, Z1d, Z1c, Z1b, Z19, Z18, Z1a, Z1e, Z52, Z4v, Z4z, Z3y, Z51, Z50, Z3z, Z1p, Z1q, Z1x, Z1v, Z1w, Z1u, Z1t, Z1s, Z1r, Z44, Z43, Z42, Z4e, Z4f, Z22, Z23, Z3d, Z3e, Z27, Z26, vV_t, vV_f, vB_t, vB_f, encI, encB, goA]
      · have hke : i = ks.length := by omega
        subst hke
        simp [goA, goG, mG, mCell, cells_Ed, solid_Ed, encPat_eq, RetNC]
        refine ⟨afOf [(4, .ptr 5 0 0)], ⟨10, gOf (mG sg true (dor sg ks (ed0 false) st).2 0 3 4 ++ [(5, some (.arr 3 [encEd (dor sg ks (ed0 false) st).1]))])⟩, Abs.of [(0, 0), (3, 3), (4, 4), (5, 6)] [] (by omega) ⟨by simp, by simp⟩ ?_ ?_, ?_⟩
        · simp [RenL_snoc, RenL.cl, RenV.cl, Z2r, Z2o, Z2s, Z2t, Z2p, Z2v, Z2u, Z2q, Z2w, Z2x, Z1d, Z1c, Z1b, Z19, Z18, Z1a, Z1e, Z52, Z4v, Z4z, Z3y, Z51, Z50, Z3z, Z1p, Z1q, Z1x, Z1v, Z1w, Z1u, Z1t, Z1s, Z1r, Z44, Z43, Z42, Z4e, Z4f, Z22, Z23, Z3d, Z3e, Z27, Z26, vV_t, vV_f, vB_t, vB_f, encI, encB, mG, mCell, encEd]
        · simp [RenL_snoc, RenL.cl, RenV.cl, Z2r, Z2o, Z2s, Z2t, Z2p, Z2v, Z2u, Z2q, Z2w, Z2x, Z1d, Z1c, Z1b, Z19, Z18, Z1a, Z1e, Z52, Z4v, Z4z, Z3y, Z51, Z50, Z3z, Z1p, Z1q, Z1x, Z1v, Z1w, Z1u, Z1t, Z1s, Z1r, Z44, Z43, Z42, Z4e, Z4f, Z22, Z23, Z3d, Z3e, Z27, Z26, vV_t, vV_f, vB_t, vB_f, encI, encB]
        · simp [RetC, evC, RV.ev, ldC, packC, gOf_m5, cells_Ed, agg_Ed, hres]
          first | exact .of | exact ⟨rfl, .of⟩
  exact (formD_gone hm F h hks hpg hq k1 k2 k3 k4 st hst hb)
end Go.Rf

