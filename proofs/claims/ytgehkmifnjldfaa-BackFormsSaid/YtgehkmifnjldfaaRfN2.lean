import Derived.Test.YtgehkmifnjldfaaRfN1
/- Own work: automata that may choose: how great they are, whether they are right, whether they are the same. -/
set_option linter.unusedVariables false
set_option linter.unusedSimpArgs false
namespace Go.Rf
open Go.RowKit
attribute [local simp] Z0h Z0c Z0d Z09 Z0a Z0i Z0b Z0f Z0g Z2z Z2y Z07 Z08 Z06 Z01 Z02 Z00 Z04 Z05 Z03 Z1z Z1y Z46 Z48 Z47 Z45 Z1n Z1o Z1m Z3n Z3k Z3m Z3l Z3o Z1l Z29 Z32 Z3x Z1i Z1j Z1k Z3v Z3w Z1g Z28 Z1h Z3i Z3f Z3h Z3g Z3j Z41 Z40 Z0t Z0u Z0v Z0s Z1f Z4c Z4b Z4d Z4a Z49 ex Z43 Z42 ev_t ev_c Z27 Z26 Z4e Z4f Z2m Z2l Z2f Z2j Z2k Z2g Z2h Z2i putc exBslice lfill exField exIdxV exIdxP exBox exAlloc exLoad exStore exFieldA exIdxA exLen exPick exUn exBeq exMM exSeq seqGo exExt binV intOp subc AV.solid S0 encI encB

def c_gn_two : AC :=
  (.block 2 (.loop (.seq (.seq (.reg none [
     ⟨(some 39), .mv (.t 7), none, none⟩,
     ⟨(some 40), .fieldA 2 (.t 2), none, none⟩,
     ⟨(some 41), .load none (.t 40), none, none⟩,
     ⟨(some 42), .len (.t 41), none, none⟩,
     ⟨(some 43), .bin .lss (.t 39) (.t 42), none, none⟩,
     ⟨(some 44), .mv (.t 43), none, none⟩,
     ⟨(some 45), .mv (.t 5), (some (44, true)), none⟩,
     ⟨(some 46), .mv (.t 1), (some (44, true)), none⟩,
     ⟨(some 47), .bin .leq (.t 45) (.t 46), (some (44, true)), none⟩,
     ⟨(some 48), .pick (.t 44) (.t 47) (.c (.v (.bool false))), none, none⟩])
    (.cond (.t 48) .skip (.exit 2)))
    (.seq (.block 3 (.reg none [
      ⟨(some 51), .mv (.t 5), none, none⟩,
      ⟨(some 52), .fieldA 2 (.t 2), none, none⟩,
      ⟨(some 53), .load none (.t 52), none, none⟩,
      ⟨(some 54), .mv (.t 7), none, none⟩,
      ⟨(some 55), .idxA 1 (.t 53) (.t 54), none, none⟩,
      ⟨(some 56), .load none (.t 55), none, none⟩,
      ⟨(some 57), .len (.t 56), none, none⟩,
      ⟨(some 58), .bin .add (.t 51) (.t 57), none, none⟩,
      ⟨(some 5), .mv (.t 58), none, none⟩]))
    (.reg none [
     ⟨(some 49), .mv (.t 7), none, none⟩,
     ⟨(some 50), .bin .add (.t 49) (.c (.v (.int .i64 1))), none, none⟩,
     ⟨(some 7), .mv (.t 50), none, none⟩])))))
def c_caesuraref13_Great : AC :=
  (.seq (.reg none [
   ⟨(some 2), .box 4 (.t 0), none, none⟩,
   ⟨(some 4), .mv (.c (.v (.bool false))), none, none⟩])
  (.seq (.reg none [
   ⟨(some 8), .fieldA 1 (.t 2), none, none⟩,
   ⟨(some 9), .load none (.t 8), none, none⟩,
   ⟨(some 10), .len (.t 9), none, none⟩,
   ⟨(some 11), .fieldA 2 (.t 2), none, none⟩,
   ⟨(some 12), .load none (.t 11), none, none⟩,
   ⟨(some 13), .len (.t 12), none, none⟩,
   ⟨(some 14), .bin .add (.t 10) (.t 13), none, none⟩,
   ⟨(some 15), .fieldA 3 (.t 2), none, none⟩,
   ⟨(some 16), .load none (.t 15), none, none⟩,
   ⟨(some 17), .len (.t 16), none, none⟩,
   ⟨(some 18), .bin .add (.t 14) (.t 17), none, none⟩,
   ⟨(some 5), .mv (.t 18), none, none⟩])
  (.seq (.seq (.reg none [
   ⟨(some 6), .mv (.c (.v (.int .i64 0))), none, none⟩])
  (.block 0 (.loop (.seq (.seq (.reg none [
     ⟨(some 19), .mv (.t 6), none, none⟩,
     ⟨(some 20), .fieldA 1 (.t 2), none, none⟩,
     ⟨(some 21), .load none (.t 20), none, none⟩,
     ⟨(some 22), .len (.t 21), none, none⟩,
     ⟨(some 23), .bin .lss (.t 19) (.t 22), none, none⟩,
     ⟨(some 24), .mv (.t 23), none, none⟩,
     ⟨(some 25), .mv (.t 5), (some (24, true)), none⟩,
     ⟨(some 26), .mv (.t 1), (some (24, true)), none⟩,
     ⟨(some 27), .bin .leq (.t 25) (.t 26), (some (24, true)), none⟩,
     ⟨(some 28), .pick (.t 24) (.t 27) (.c (.v (.bool false))), none, none⟩])
    (.cond (.t 28) .skip (.exit 0)))
    (.seq (.block 1 (.reg none [
      ⟨(some 31), .mv (.t 5), none, none⟩,
      ⟨(some 32), .fieldA 1 (.t 2), none, none⟩,
      ⟨(some 33), .load none (.t 32), none, none⟩,
      ⟨(some 34), .mv (.t 6), none, none⟩,
      ⟨(some 35), .idxA 1 (.t 33) (.t 34), none, none⟩,
      ⟨(some 36), .load none (.t 35), none, none⟩,
      ⟨(some 37), .len (.t 36), none, none⟩,
      ⟨(some 38), .bin .add (.t 31) (.t 37), none, none⟩,
      ⟨(some 5), .mv (.t 38), none, none⟩]))
    (.reg none [
     ⟨(some 29), .mv (.t 6), none, none⟩,
     ⟨(some 30), .bin .add (.t 29) (.c (.v (.int .i64 1))), none, none⟩,
     ⟨(some 6), .mv (.t 30), none, none⟩]))))))
  (.seq (.seq (.reg none [
   ⟨(some 7), .mv (.c (.v (.int .i64 0))), none, none⟩])
  c_gn_two)
  (.seq (.reg none [
   ⟨(some 59), .mv (.t 5), none, none⟩,
   ⟨(some 60), .mv (.t 1), none, none⟩,
   ⟨(some 61), .bin .gtr (.t 59) (.t 60), none, none⟩,
   ⟨(some 4), .mv (.t 61), none, none⟩])
  .ret)))))
def c_nr_loop (f_net_lies : FuncId) : AC :=
  (.block 0 (.loop (.seq (.reg none [
     ⟨(some 48), .bin .lss (.t 47) (.t 46), none, none⟩])
    (.seq (.cond (.t 48) .skip (.exit 0))
    (.seq (.block 1 (.seq (.reg none [
      ⟨(some 49), .mv (.t 47), none, none⟩,
      ⟨(some 4), .mv (.t 49), none, none⟩])
     (.seq (.reg (some []) [
      ⟨(some 50), .fieldA 1 (.t 1), none, none⟩,
      ⟨(some 51), .load none (.t 50), none, none⟩,
      ⟨(some 52), .mv (.t 4), none, none⟩,
      ⟨(some 53), .idxA 1 (.t 51) (.t 52), none, none⟩,
      ⟨(some 54), .load none (.t 53), none, none⟩,
      ⟨(some 55), .fieldA 0 (.t 1), none, none⟩,
      ⟨(some 56), .load none (.t 55), none, none⟩,
      ⟨(some 57), .mv (.c .junk), none, (some ((.c (.clo f_net_lies [] [])), [(.t 54), (.c (.v (.int .i64 0))), (.t 56)]))⟩,
      ⟨(some 58), .un .not (.t 57), none, none⟩,
      ⟨(some 59), .mv (.t 58), none, none⟩,
      ⟨(some 60), .fieldA 2 (.t 1), (some (59, false)), none⟩,
      ⟨(some 61), .load none (.t 60), (some (59, false)), none⟩,
      ⟨(some 62), .mv (.t 4), (some (59, false)), none⟩,
      ⟨(some 63), .idxA 1 (.t 61) (.t 62), (some (59, false)), none⟩,
      ⟨(some 64), .load none (.t 63), (some (59, false)), none⟩,
      ⟨(some 65), .mv (.t 3), (some (59, false)), none⟩,
      ⟨(some 66), .mv (.c .junk), (some (59, false)), (some ((.c (.clo f_net_lies [] [])), [(.t 64), (.c (.v (.int .i64 1))), (.t 65)]))⟩,
      ⟨(some 67), .un .not (.t 66), (some (59, false)), none⟩,
      ⟨(some 68), .pick (.t 59) (.c (.v (.bool true))) (.t 67), none, none⟩])
     (.cond (.t 68) (.seq (.reg none [
       ⟨(some 2), .mv (.c (.v (.bool false))), none, none⟩])
      .ret) .skip))))
    (.reg none [
     ⟨(some 69), .bin .add (.t 47) (.c (.v (.int .i64 1))), none, none⟩,
     ⟨(some 47), .mv (.t 69), none, none⟩]))))))
def c_net_Right (f_net_lies : FuncId) : AC :=
  (.seq (.reg none [
   ⟨(some 1), .box 4 (.t 0), none, none⟩,
   ⟨(some 2), .mv (.c (.v (.bool false))), none, none⟩])
  (.seq (.reg none [
   ⟨(some 5), .fieldA 1 (.t 1), none, none⟩,
   ⟨(some 6), .load none (.t 5), none, none⟩,
   ⟨(some 7), .len (.t 6), none, none⟩,
   ⟨(some 3), .mv (.t 7), none, none⟩])
  (.seq (.seq (.reg none [
   ⟨(some 8), .fieldA 0 (.t 1), none, none⟩,
   ⟨(some 9), .load none (.t 8), none, none⟩,
   ⟨(some 10), .bin .lss (.t 9) (.c (.v (.int .i64 1))), none, none⟩,
   ⟨(some 11), .mv (.t 10), none, none⟩,
   ⟨(some 12), .fieldA 0 (.t 1), (some (11, false)), none⟩,
   ⟨(some 13), .load none (.t 12), (some (11, false)), none⟩,
   ⟨(some 14), .bin .gtr (.t 13) (.c (.v (.int .i64 400))), (some (11, false)), none⟩,
   ⟨(some 15), .pick (.t 11) (.c (.v (.bool true))) (.t 14), none, none⟩,
   ⟨(some 16), .mv (.t 15), none, none⟩,
   ⟨(some 17), .mv (.t 3), (some (16, false)), none⟩,
   ⟨(some 18), .bin .eql (.t 17) (.c (.v (.int .i64 0))), (some (16, false)), none⟩,
   ⟨(some 19), .pick (.t 16) (.c (.v (.bool true))) (.t 18), none, none⟩,
   ⟨(some 20), .mv (.t 19), none, none⟩,
   ⟨(some 21), .mv (.t 3), (some (20, false)), none⟩,
   ⟨(some 22), .bin .gtr (.t 21) (.c (.v (.int .i64 301))), (some (20, false)), none⟩,
   ⟨(some 23), .pick (.t 20) (.c (.v (.bool true))) (.t 22), none, none⟩,
   ⟨(some 24), .mv (.t 23), none, none⟩,
   ⟨(some 25), .fieldA 2 (.t 1), (some (24, false)), none⟩,
   ⟨(some 26), .load none (.t 25), (some (24, false)), none⟩,
   ⟨(some 27), .len (.t 26), (some (24, false)), none⟩,
   ⟨(some 28), .mv (.t 3), (some (24, false)), none⟩,
   ⟨(some 29), .bin .neq (.t 27) (.t 28), (some (24, false)), none⟩,
   ⟨(some 30), .pick (.t 24) (.c (.v (.bool true))) (.t 29), none, none⟩,
   ⟨(some 31), .mv (.t 30), none, none⟩,
   ⟨(some 32), .fieldA 1 (.t 1), (some (31, false)), none⟩,
   ⟨(some 33), .load none (.t 32), (some (31, false)), none⟩,
   ⟨(some 34), .idxA 1 (.t 33) (.c (.v (.int .i64 0))), (some (31, false)), none⟩,
   ⟨(some 35), .load none (.t 34), (some (31, false)), none⟩,
   ⟨(some 36), .len (.t 35), (some (31, false)), none⟩,
   ⟨(some 37), .bin .gtr (.t 36) (.c (.v (.int .i64 0))), (some (31, false)), none⟩,
   ⟨(some 38), .pick (.t 31) (.c (.v (.bool true))) (.t 37), none, none⟩,
   ⟨(some 39), .mv (.t 38), none, none⟩,
   ⟨(some 40), .fieldA 3 (.t 1), (some (39, false)), none⟩,
   ⟨(some 41), .load none (.t 40), (some (39, false)), none⟩,
   ⟨(some 42), .mv (.t 3), (some (39, false)), none⟩,
   ⟨(some 43), .mv (.c .junk), (some (39, false)), (some ((.c (.clo f_net_lies [] [])), [(.t 41), (.c (.v (.int .i64 0))), (.t 42)]))⟩,
   ⟨(some 44), .un .not (.t 43), (some (39, false)), none⟩,
   ⟨(some 45), .pick (.t 39) (.c (.v (.bool true))) (.t 44), none, none⟩])
  (.cond (.t 45) (.seq (.reg none [
    ⟨(some 2), .mv (.c (.v (.bool false))), none, none⟩])
   .ret) .skip))
  (.seq (.seq (.reg none [
   ⟨(some 46), .mv (.t 3), none, none⟩,
   ⟨(some 47), .mv (.c (.v (.int .i64 0))), none, none⟩])
  (c_nr_loop f_net_lies))
  (.seq (.reg none [
   ⟨(some 2), .mv (.c (.v (.bool true))), none, none⟩])
  .ret)))))
def c_rr_loop (f_caesuraref13_rising : FuncId) : AC :=
  (.block 0 (.loop (.seq (.seq (.reg none [
     ⟨(some 46), .mv (.t 4), none, none⟩,
     ⟨(some 47), .mv (.t 3), none, none⟩,
     ⟨(some 48), .bin .lss (.t 46) (.t 47), none, none⟩])
    (.cond (.t 48) .skip (.exit 0)))
    (.seq (.block 1 (.seq (.reg (some []) [
      ⟨(some 51), .fieldA 1 (.t 1), none, none⟩,
      ⟨(some 52), .load none (.t 51), none, none⟩,
      ⟨(some 53), .mv (.t 4), none, none⟩,
      ⟨(some 54), .idxA 1 (.t 52) (.t 53), none, none⟩,
      ⟨(some 55), .load none (.t 54), none, none⟩,
      ⟨(some 56), .fieldA 0 (.t 1), none, none⟩,
      ⟨(some 57), .load none (.t 56), none, none⟩,
      ⟨(some 58), .mv (.c .junk), none, (some ((.c (.clo f_caesuraref13_rising [] [])), [(.t 55), (.c (.v (.int .i64 0))), (.t 57)]))⟩,
      ⟨(some 59), .un .not (.t 58), none, none⟩,
      ⟨(some 60), .mv (.t 59), none, none⟩,
      ⟨(some 61), .fieldA 2 (.t 1), (some (60, false)), none⟩,
      ⟨(some 62), .load none (.t 61), (some (60, false)), none⟩,
      ⟨(some 63), .mv (.t 4), (some (60, false)), none⟩,
      ⟨(some 64), .idxA 1 (.t 62) (.t 63), (some (60, false)), none⟩,
      ⟨(some 65), .load none (.t 64), (some (60, false)), none⟩,
      ⟨(some 66), .mv (.t 3), (some (60, false)), none⟩,
      ⟨(some 67), .mv (.c .junk), (some (60, false)), (some ((.c (.clo f_caesuraref13_rising [] [])), [(.t 65), (.c (.v (.int .i64 1))), (.t 66)]))⟩,
      ⟨(some 68), .un .not (.t 67), (some (60, false)), none⟩,
      ⟨(some 69), .pick (.t 60) (.c (.v (.bool true))) (.t 68), none, none⟩])
     (.cond (.t 69) (.seq (.reg none [
       ⟨(some 2), .mv (.c (.v (.bool false))), none, none⟩])
      .ret) .skip)))
    (.reg none [
     ⟨(some 49), .mv (.t 4), none, none⟩,
     ⟨(some 50), .bin .add (.t 49) (.c (.v (.int .i64 1))), none, none⟩,
     ⟨(some 4), .mv (.t 50), none, none⟩])))))
def c_caesuraref13_Right (f_caesuraref13_rising : FuncId) : AC :=
  (.seq (.reg none [
   ⟨(some 1), .box 4 (.t 0), none, none⟩,
   ⟨(some 2), .mv (.c (.v (.bool false))), none, none⟩])
  (.seq (.reg none [
   ⟨(some 5), .fieldA 1 (.t 1), none, none⟩,
   ⟨(some 6), .load none (.t 5), none, none⟩,
   ⟨(some 7), .len (.t 6), none, none⟩,
   ⟨(some 3), .mv (.t 7), none, none⟩])
  (.seq (.seq (.reg none [
   ⟨(some 8), .fieldA 0 (.t 1), none, none⟩,
   ⟨(some 9), .load none (.t 8), none, none⟩,
   ⟨(some 10), .bin .lss (.t 9) (.c (.v (.int .i64 1))), none, none⟩,
   ⟨(some 11), .mv (.t 10), none, none⟩,
   ⟨(some 12), .fieldA 0 (.t 1), (some (11, false)), none⟩,
   ⟨(some 13), .load none (.t 12), (some (11, false)), none⟩,
   ⟨(some 14), .bin .gtr (.t 13) (.c (.v (.int .i64 400))), (some (11, false)), none⟩,
   ⟨(some 15), .pick (.t 11) (.c (.v (.bool true))) (.t 14), none, none⟩,
   ⟨(some 16), .mv (.t 15), none, none⟩,
   ⟨(some 17), .mv (.t 3), (some (16, false)), none⟩,
   ⟨(some 18), .bin .lss (.t 17) (.c (.v (.int .i64 1))), (some (16, false)), none⟩,
   ⟨(some 19), .pick (.t 16) (.c (.v (.bool true))) (.t 18), none, none⟩,
   ⟨(some 20), .mv (.t 19), none, none⟩,
   ⟨(some 21), .mv (.t 3), (some (20, false)), none⟩,
   ⟨(some 22), .bin .gtr (.t 21) (.c (.v (.int .i64 301))), (some (20, false)), none⟩,
   ⟨(some 23), .pick (.t 20) (.c (.v (.bool true))) (.t 22), none, none⟩,
   ⟨(some 24), .mv (.t 23), none, none⟩,
   ⟨(some 25), .fieldA 2 (.t 1), (some (24, false)), none⟩,
   ⟨(some 26), .load none (.t 25), (some (24, false)), none⟩,
   ⟨(some 27), .len (.t 26), (some (24, false)), none⟩,
   ⟨(some 28), .mv (.t 3), (some (24, false)), none⟩,
   ⟨(some 29), .bin .neq (.t 27) (.t 28), (some (24, false)), none⟩,
   ⟨(some 30), .pick (.t 24) (.c (.v (.bool true))) (.t 29), none, none⟩,
   ⟨(some 31), .mv (.t 30), none, none⟩,
   ⟨(some 32), .fieldA 1 (.t 1), (some (31, false)), none⟩,
   ⟨(some 33), .load none (.t 32), (some (31, false)), none⟩,
   ⟨(some 34), .idxA 1 (.t 33) (.c (.v (.int .i64 0))), (some (31, false)), none⟩,
   ⟨(some 35), .load none (.t 34), (some (31, false)), none⟩,
   ⟨(some 36), .len (.t 35), (some (31, false)), none⟩,
   ⟨(some 37), .bin .gtr (.t 36) (.c (.v (.int .i64 0))), (some (31, false)), none⟩,
   ⟨(some 38), .pick (.t 31) (.c (.v (.bool true))) (.t 37), none, none⟩,
   ⟨(some 39), .mv (.t 38), none, none⟩,
   ⟨(some 40), .fieldA 3 (.t 1), (some (39, false)), none⟩,
   ⟨(some 41), .load none (.t 40), (some (39, false)), none⟩,
   ⟨(some 42), .mv (.t 3), (some (39, false)), none⟩,
   ⟨(some 43), .mv (.c .junk), (some (39, false)), (some ((.c (.clo f_caesuraref13_rising [] [])), [(.t 41), (.c (.v (.int .i64 0))), (.t 42)]))⟩,
   ⟨(some 44), .un .not (.t 43), (some (39, false)), none⟩,
   ⟨(some 45), .pick (.t 39) (.c (.v (.bool true))) (.t 44), none, none⟩])
  (.cond (.t 45) (.seq (.reg none [
    ⟨(some 2), .mv (.c (.v (.bool false))), none, none⟩])
   .ret) .skip))
  (.seq (.seq (.reg none [
   ⟨(some 4), .mv (.c (.v (.int .i64 0))), none, none⟩])
  (c_rr_loop f_caesuraref13_rising))
  (.seq (.reg none [
   ⟨(some 2), .mv (.c (.v (.bool true))), none, none⟩])
  .ret)))))
def c_caesuraref13_Same (f_caesuraref13_Lists f_caesuraref01_Ints : FuncId) : AC :=
  (.seq (.reg none [
   ⟨(some 2), .box 4 (.t 0), none, none⟩,
   ⟨(some 3), .box 4 (.t 1), none, none⟩,
   ⟨(some 4), .mv (.c (.v (.bool false))), none, none⟩])
  (.seq (.reg none [
   ⟨(some 5), .fieldA 0 (.t 2), none, none⟩,
   ⟨(some 6), .load none (.t 5), none, none⟩,
   ⟨(some 7), .fieldA 0 (.t 3), none, none⟩,
   ⟨(some 8), .load none (.t 7), none, none⟩,
   ⟨(some 9), .bin .eql (.t 6) (.t 8), none, none⟩,
   ⟨(some 10), .mv (.t 9), none, none⟩,
   ⟨(some 11), .fieldA 1 (.t 2), (some (10, true)), none⟩,
   ⟨(some 12), .load none (.t 11), (some (10, true)), none⟩,
   ⟨(some 13), .fieldA 1 (.t 3), (some (10, true)), none⟩,
   ⟨(some 14), .load none (.t 13), (some (10, true)), none⟩,
   ⟨(some 15), .mv (.c .junk), (some (10, true)), (some ((.c (.clo f_caesuraref13_Lists [] [])), [(.t 12), (.t 14)]))⟩,
   ⟨(some 16), .pick (.t 10) (.t 15) (.c (.v (.bool false))), none, none⟩,
   ⟨(some 17), .mv (.t 16), none, none⟩,
   ⟨(some 18), .fieldA 2 (.t 2), (some (17, true)), none⟩,
   ⟨(some 19), .load none (.t 18), (some (17, true)), none⟩,
   ⟨(some 20), .fieldA 2 (.t 3), (some (17, true)), none⟩,
   ⟨(some 21), .load none (.t 20), (some (17, true)), none⟩,
   ⟨(some 22), .mv (.c .junk), (some (17, true)), (some ((.c (.clo f_caesuraref13_Lists [] [])), [(.t 19), (.t 21)]))⟩,
   ⟨(some 23), .pick (.t 17) (.t 22) (.c (.v (.bool false))), none, none⟩,
   ⟨(some 24), .mv (.t 23), none, none⟩,
   ⟨(some 25), .fieldA 3 (.t 2), (some (24, true)), none⟩,
   ⟨(some 26), .load none (.t 25), (some (24, true)), none⟩,
   ⟨(some 27), .fieldA 3 (.t 3), (some (24, true)), none⟩,
   ⟨(some 28), .load none (.t 27), (some (24, true)), none⟩,
   ⟨(some 29), .mv (.c .junk), (some (24, true)), (some ((.c (.clo f_caesuraref01_Ints [] [])), [(.t 26), (.t 28)]))⟩,
   ⟨(some 30), .pick (.t 24) (.t 29) (.c (.v (.bool false))), none, none⟩,
   ⟨(some 4), .mv (.t 30), none, none⟩])
  .ret))
structure Net where
  signs : Int
  by_ : List (List Int)
  follow : List (List Int)
  last : List Int
  deriving DecidableEq
def encNet (n : Net) : AV := .agg [encI n.signs, encIss n.by_, encIss n.follow, encIs n.last]
theorem closed_Net (n : Net) : Closed (encNet n) := .agg _ (by
  intro y hy
  simp only [List.mem_cons, List.not_mem_nil, or_false] at hy
  rcases hy with rfl | rfl | rfl | rfl
  · exact Z2r _
  · exact Z2t _
  · exact Z2t _
  · exact Z2s _)
structure NetOk (n : Net) : Prop where
  by_ : Len n.by_
  follow : Len n.follow
  last : Len n.last
  byr : ∀ r ∈ n.by_, Len r
  followr : ∀ r ∈ n.follow, Len r
def sumL (l : List (List Int)) (i : Nat) : Nat := ((l.take i).map List.length).sum
theorem sumL_succ {l : List (List Int)} {i : Nat} (h : i < l.length) : sumL l (i + 1) = sumL l i + l[i].length := by
  unfold sumL
  rw [List.take_add_one, List.getElem?_eq_getElem h]
  simp only [Option.toList_some, List.map_append, List.map_cons, List.map_nil, List.sum_append, List.sum_cons, List.sum_nil, Nat.add_zero]
theorem sumL_le (l : List (List Int)) (i : Nat) : sumL l i ≤ sumL l l.length := by
  unfold sumL
  rw [List.take_length]
  have h : ((l.take i).map List.length).sum + ((l.drop i).map List.length).sum = (l.map List.length).sum := by
    rw [← List.sum_append, ← List.map_append, List.take_append_drop]
  omega
def totN (n : Net) : Nat := n.by_.length + n.follow.length + n.last.length + sumL n.by_ n.by_.length + sumL n.follow n.follow.length
def greatN (n : Net) (m : Int) : Bool := decide (m < totN n)
theorem gn_two {P : Program} {n : Net} (ok : NetOk n) {m : Int} (hm : m ≤ 3000) {s0 : Nat} {f : AF} {S : St} {Q : Exit → AF → St → Prop} (e5 : f 5 = encI s0) (e1 : f 1 = encI m) (e2 : f 2 = .ptr 0 0 0) (e7 : f 7 = encI 0) (g0 : S.g 0 = some (.arr 4 [encNet n]))
    (hs : s0 ≤ 4000000000000000)
    (hk : ∀ (i : Nat) (f' : AF) (S' : St), i ≤ n.follow.length → f' 5 = encI (s0 + sumL n.follow i : Nat) → f' 1 = encI m → (i = n.follow.length ∨ m < (s0 + sumL n.follow i : Nat)) → Q .normal f' S') : AW P c_gn_two Q f S := by
  have l2 := ok.follow
  unfold Len at l2
  simp [c_gn_two]
  refine AW_for n.follow.length (fun i f S => f 5 = encI (s0 + sumL n.follow i : Nat) ∧ f 1 = encI m ∧ f 2 = .ptr 0 0 0 ∧ f 7 = encI i ∧ S.g 0 = some (.arr 4 [encNet n])) ?_ ?_
  · exact ⟨by simp [sumL, e5], e1, e2, by simpa using e7, g0⟩
  · rintro i f S hi ⟨e5, e1, e2, e7, g0⟩
    simp only [encNet, encIss] at g0
    by_cases hlt : i < n.follow.length
    · by_cases hle : ((s0 + sumL n.follow i : Nat) : Int) ≤ m
      · have hr := ok.followr _ (List.getElem_mem hlt)
        unfold Len at hr
        have hw := wrap_in (((s0 + sumL n.follow i : Nat) : Int) + ((n.follow[i]).length : Int)) (by omega)
        have hle2 : (s0 : Int) + (sumL n.follow i : Int) ≤ m := by omega
        have hw2 : IntKind.i64.wrap ((s0 : Int) + (sumL n.follow i : Int) + ((n.follow[i]).length : Int)) = (s0 : Int) + (sumL n.follow i : Int) + ((n.follow[i]).length : Int) := wrap_in _ (by omega)
        simp [e5, e1, e2, e7, g0, hlt, hle, hle2, encIs, hw, hw2]
        rw [wrap_in _ (by omega)]
        refine ⟨hlt, ?_, ?_, ?_, ?_, ?_⟩
        · simp [Z43, encI, sumL_succ hlt]; omega
        · simp [Z43, e1, encI]
        · simp [Z43, e2]
        · simp [Z43, encI]
        · simp [g0, encNet, encIss, encIs, encI]
      · have hle2 : ¬ (s0 : Int) + (sumL n.follow i : Int) ≤ m := by omega
        simp [e5, e1, e2, e7, g0, hlt, hle, hle2]
        exact hk i _ _ (by omega) (by simp [Z43, e5, encI]) (by simp [Z43, e1, encI]) (.inr (by omega))
    · simp [e5, e1, e2, e7, g0, hlt]
      exact hk i _ _ hi (by simp [Z43, e5, encI]) (by simp [Z43, e1, encI]) (.inl (by omega))
theorem Great13_body {P : Program} (n : Net) (ok : NetOk n) (m : Int) (hm : m ≤ 3000) : AW P c_caesuraref13_Great (RetK [4] (FzK (encB (greatN n m)))) (argF [encNet n, encI m]) S0 := by
  have l1 := ok.by_
  have l2 := ok.follow
  have l3 := ok.last
  unfold Len at l1 l2 l3
  have w1 := wrap_in ((n.by_.length : Int) + (n.follow.length : Int)) (by omega)
  have w2 := wrap_in ((n.by_.length : Int) + (n.follow.length : Int) + (n.last.length : Int)) (by omega)
  generalize hc : n.by_.length + n.follow.length + n.last.length = c at *
  have fin : ∀ (i j : Nat) (f' : AF) (S' : St), i ≤ n.by_.length → j ≤ n.follow.length → (i = n.by_.length ∨ m < (c + sumL n.by_ i : Nat)) → (j = n.follow.length ∨ m < (c + sumL n.by_ i + sumL n.follow j : Nat)) →
      f' 5 = encI (c + sumL n.by_ i + sumL n.follow j : Nat) → f' 1 = encI m → decide (m < (c + sumL n.by_ i + sumL n.follow j : Nat)) = greatN n m := by
    intro i j f' S' hi hj h1 h2 _ _
    have t1 := sumL_le n.by_ i
    have t2 := sumL_le n.follow j
    unfold greatN totN
    rw [hc]
    rcases h1 with rfl | h1
    · rcases h2 with rfl | h2
      · rfl
      · rw [decide_eq_true (by omega), decide_eq_true (by omega)]
    · rw [decide_eq_true (by omega), decide_eq_true (by omega)]
  simp [c_caesuraref13_Great, encNet, encIss, encIs, w1, w2]
  refine AW_for n.by_.length (fun i f S => f 5 = encI (c + sumL n.by_ i : Nat) ∧ f 1 = encI m ∧ f 2 = .ptr 0 0 0 ∧ f 6 = encI i ∧ S.g 0 = some (.arr 4 [encNet n]) ∧ c + sumL n.by_ i ≤ 1000000000000000) ?_ ?_
  · refine ⟨?_, ?_, ?_, ?_, ?_, by simp [sumL]; omega⟩
    · simp [Z43, encI, sumL]; omega
    · simp [Z43, Z27, Z26, encI]
    · simp [Z43]
    · simp [Z43, encI]
    · simp [Z4e, encNet, encI, encIss, encIs]
  · rintro i f S hi ⟨e5, e1, e2, e6, g0, hbd⟩
    simp only [encNet, encIss] at g0
    by_cases hlt : i < n.by_.length
    · by_cases hle : (c : Int) + (sumL n.by_ i : Int) ≤ m
      · have hr := ok.byr _ (List.getElem_mem hlt)
        unfold Len at hr
        have hw2 : IntKind.i64.wrap ((c : Int) + (sumL n.by_ i : Int) + ((n.by_[i]).length : Int)) = (c : Int) + (sumL n.by_ i : Int) + ((n.by_[i]).length : Int) := wrap_in _ (by omega)
        simp [e5, e1, e2, e6, g0, hlt, hle, encIs, hw2]
        rw [wrap_in _ (by omega)]
        refine ⟨hlt, ?_, ?_, ?_, ?_, ?_, by rw [sumL_succ hlt]; omega⟩
        · simp [Z43, encI, sumL_succ hlt]; omega
        · simp [Z43, e1, encI]
        · simp [Z43, e2]
        · simp [Z43, encI]
        · simp [g0, encNet, encIss, encIs, encI]
      · simp [e5, e1, e2, e6, g0, hlt, hle]
        refine gn_two (n := n) ok hm (s0 := c + sumL n.by_ i) (by simp [Z43, e5, encI]) (by simp [Z43, e1, encI]) (by simp [Z43, e2]) (by simp [Z43, encI]) (by simp [g0, encNet, encIss, encIs, encI]) (by omega) ?_
        intro j f' S' hj e5' e1' hd
        have := fin i j f' S' (by omega) hj (.inr (by omega)) hd e5' e1'
        simp only [Int.natCast_add] at e5' this
        simp [e5', e1']
        rw [this]
        exact FzK_B _ _
    · simp [e5, e1, e2, e6, g0, hlt]
      refine gn_two (n := n) ok hm (s0 := c + sumL n.by_ i) (by simp [Z43, e5, encI]) (by simp [Z43, e1, encI]) (by simp [Z43, e2]) (by simp [Z43, encI]) (by simp [g0, encNet, encIss, encIs, encI]) (by omega) ?_
      intro j f' S' hj e5' e1' hd
      have := fin i j f' S' (by omega) hj (.inl (by omega)) hd e5' e1'
      simp only [Int.natCast_add] at e5' this
      simp [e5', e1']
      rw [this]
      exact FzK_B _ _
def rightN (n : Net) : Bool := decide (1 ≤ n.signs) && decide (n.signs ≤ 400) && decide (1 ≤ n.by_.length) && decide (n.by_.length ≤ 301) && decide (n.follow.length = n.by_.length) && decide ((n.by_.getD 0 []).length = 0) && risesB n.last 0 n.by_.length &&
  (List.range n.by_.length).all fun i => risesB (n.by_.getD i []) 0 n.signs && risesB (n.follow.getD i []) 1 n.by_.length
structure RightN (n : Net) : Prop where
  s1 : 1 ≤ n.signs
  s2 : n.signs ≤ 400
  n1 : 1 ≤ n.by_.length
  n2 : n.by_.length ≤ 301
  len : n.follow.length = n.by_.length
  by0 : n.by_.getD 0 [] = []
  last : RisesP n.last 0 n.by_.length
  by_ : ∀ i (h : i < n.by_.length), RisesP n.by_[i] 0 n.signs
  follow : ∀ i (h : i < n.follow.length), RisesP n.follow[i] 1 n.by_.length
theorem rightN_iff (n : Net) : rightN n = true ↔ RightN n := by
  simp only [rightN, Bool.and_eq_true, decide_eq_true_eq, List.all_eq_true, List.mem_range, risesB_iff]
  constructor
  · rintro ⟨⟨⟨⟨⟨⟨⟨h1, h2⟩, h3⟩, h4⟩, h5⟩, h6⟩, h7⟩, h8⟩
    refine ⟨h1, h2, h3, h4, h5, List.eq_nil_of_length_eq_zero h6, h7, fun i h => ?_, fun i h => ?_⟩
    · have := (h8 i h).1
      rw [List.getD_eq_getElem?_getD, List.getElem?_eq_getElem h] at this; exact this
    · have := (h8 i (by omega)).2
      rw [List.getD_eq_getElem?_getD, List.getElem?_eq_getElem h] at this; exact this
  · intro h
    refine ⟨⟨⟨⟨⟨⟨⟨h.s1, h.s2⟩, h.n1⟩, h.n2⟩, h.len⟩, by rw [h.by0]; rfl⟩, h.last⟩, fun i hi => ⟨?_, ?_⟩⟩
    · have := h.by_ i hi
      rw [List.getD_eq_getElem?_getD, List.getElem?_eq_getElem hi]; exact this
    · have hi2 : i < n.follow.length := by rw [h.len]; exact hi
      have := h.follow i hi2
      rw [List.getD_eq_getElem?_getD, List.getElem?_eq_getElem hi2]; exact this
theorem rightN_no {n : Net} {x : Prop} (hx : ¬ x) (h : RightN n → x) : rightN n = false := by
  cases hr : rightN n with
  | false => rfl
  | true => exact (hx (h ((rightN_iff n).mp hr))).elim
def Net.rows (n : Net) : List (List Int) := n.last :: (n.by_ ++ n.follow)
def okRow (n : Net) (i : Nat) : Bool := risesB (n.by_.getD i []) 0 n.signs && risesB (n.follow.getD i []) 1 n.by_.length
def HLie (P : Program) (fl : FuncId) (n : Net) : Prop := ∀ l ∈ n.rows, ∀ a b, PureC P fl [encIs l, encI a, encI b] (encB (risesB l a b))
theorem nr_loop {P : Program} {fl : FuncId} {n : Net} (hl : HLie P fl n) (hlen : n.follow.length = n.by_.length) (hk : n.by_.length ≤ 301) {f : AF} {S : St} {Q : Exit → AF → St → Prop} (e1 : f 1 = .ptr 0 0 0) (e3 : f 3 = encI n.by_.length) (e46 : f 46 = encI n.by_.length) (ei : f 47 = encI 0)
    (g0 : S.g 0 = some (.arr 4 [encNet n])) (h1 : (∀ i, i < n.by_.length → okRow n i = true) → ∀ f' S', Q .normal f' S') (h2 : (¬ ∀ i, i < n.by_.length → okRow n i = true) → ∀ f' S', f' 2 = encB false → Q .ret f' S') : AW P (c_nr_loop fl) Q f S := by
  simp [c_nr_loop]
  refine AW_for n.by_.length (fun i f S => f 1 = .ptr 0 0 0 ∧ f 3 = encI n.by_.length ∧ (f 46 = encI n.by_.length) ∧ f 47 = encI i ∧ S.g 0 = some (.arr 4 [encNet n]) ∧ ∀ j, j < i → okRow n j = true) ?_ ?_
  · exact ⟨e1, e3, e46, ei, g0, by omega⟩
  · rintro i f S hi ⟨e1, e3, e46, ei, g0, hq⟩
    simp only [encNet, encIss] at g0
    by_cases hlt : i < n.by_.length
    · have hlf : i < n.follow.length := by omega
      have gb : n.by_.getD i [] = n.by_[i] := by rw [List.getD_eq_getElem?_getD, List.getElem?_eq_getElem hlt]; rfl
      have gf : n.follow.getD i [] = n.follow[i] := by rw [List.getD_eq_getElem?_getD, List.getElem?_eq_getElem hlf]; rfl
      have k1 := hl n.by_[i] (by simp [Net.rows]) 0 n.signs
      have k2 := hl n.follow[i] (by simp [Net.rows]) 1 n.by_.length
      have c1 := cl_cons (Z2s n.by_[i]) (cl_cons (Z2r 0) (cl_cons (Z2r n.signs) cl_nil))
      have c2 := cl_cons (Z2s n.follow[i]) (cl_cons (Z2r 1) (cl_cons (Z2r n.by_.length) cl_nil))
      simp only [encIs, encI] at k1 k2 c1 c2
      have d1 : ∀ m g', CallD P fl [.sl false ((n.by_[i]).map encI), .v (.int .i64 0), .v (.int .i64 n.signs)] ⟨m, g'⟩ [] (encB (risesB n.by_[i] 0 n.signs)) := fun m g' => CallD.kl k1 c1 (Z2o _)
      have d2 : ∀ m g', CallD P fl [.sl false ((n.follow[i]).map encI), .v (.int .i64 1), .v (.int .i64 n.by_.length)] ⟨m, g'⟩ [] (encB (risesB n.follow[i] 1 n.by_.length)) := fun m g' => CallD.kl k2 c2 (Z2o _)
      simp [e1, e3, e46, ei, g0, hlt, hlf, encIs]
      refine ⟨_, ⟨_, d1 _ _⟩, ?_⟩
      cases hA : risesB n.by_[i] 0 n.signs with
      | false =>
        simp [e1, e3, e46, ei, g0, hlt, hlf, encIs]
        exact h2 (fun h => by have := h i hlt; rw [okRow, gb, hA] at this; cases this) _ _ (by simp [Z43, encB])
      | true =>
        simp [e1, e3, e46, ei, g0, hlt, hlf, encIs]
        refine ⟨_, ⟨_, d2 _ _⟩, ?_⟩
        cases hB : risesB n.follow[i] 1 n.by_.length with
        | false =>
          simp [e1, e3, e46, ei, g0, hlt, hlf, encIs]
          exact h2 (fun h => by have := h i hlt; rw [okRow, gb, gf, hA, hB] at this; cases this) _ _ (by simp [Z43, encB])
        | true =>
          simp [e1, e3, e46, ei, g0, hlt, hlf, encIs]
          rw [wrap_in _ (by omega)]
          refine ⟨hlt, ?_, ?_, ?_, ?_, ?_, fun j hj => ?_⟩
          · simp [Z43, e1]
          · simp [Z43, e3, encI]
          · simp [Z43, e46, encI]
          · simp [Z43, encI]
          · simp [g0, encNet, encIss, encIs, encI]
          · by_cases e : j = i
            · subst e; rw [okRow, gb, gf, hA, hB]; rfl
            · exact hq j (by omega)
    · simp [e1, e3, e46, ei, g0, hlt]
      exact h1 (fun j hj => hq j (by omega)) _ _
theorem rr_loop {P : Program} {fl : FuncId} {n : Net} (hl : HLie P fl n) (hlen : n.follow.length = n.by_.length) (hk : n.by_.length ≤ 301) {f : AF} {S : St} {Q : Exit → AF → St → Prop} (e1 : f 1 = .ptr 0 0 0) (e3 : f 3 = encI n.by_.length) (e46 : f 1 = .ptr 0 0 0) (ei : f 4 = encI 0)
    (g0 : S.g 0 = some (.arr 4 [encNet n])) (h1 : (∀ i, i < n.by_.length → okRow n i = true) → ∀ f' S', Q .normal f' S') (h2 : (¬ ∀ i, i < n.by_.length → okRow n i = true) → ∀ f' S', f' 2 = encB false → Q .ret f' S') : AW P (c_rr_loop fl) Q f S := by
  simp [c_rr_loop]
  refine AW_for n.by_.length (fun i f S => f 1 = .ptr 0 0 0 ∧ f 3 = encI n.by_.length ∧ (f 1 = .ptr 0 0 0) ∧ f 4 = encI i ∧ S.g 0 = some (.arr 4 [encNet n]) ∧ ∀ j, j < i → okRow n j = true) ?_ ?_
  · exact ⟨e1, e3, e46, ei, g0, by omega⟩
  · rintro i f S hi ⟨e1, e3, e46, ei, g0, hq⟩
    simp only [encNet, encIss] at g0
    by_cases hlt : i < n.by_.length
    · have hlf : i < n.follow.length := by omega
      have gb : n.by_.getD i [] = n.by_[i] := by rw [List.getD_eq_getElem?_getD, List.getElem?_eq_getElem hlt]; rfl
      have gf : n.follow.getD i [] = n.follow[i] := by rw [List.getD_eq_getElem?_getD, List.getElem?_eq_getElem hlf]; rfl
      have k1 := hl n.by_[i] (by simp [Net.rows]) 0 n.signs
      have k2 := hl n.follow[i] (by simp [Net.rows]) 1 n.by_.length
      have c1 := cl_cons (Z2s n.by_[i]) (cl_cons (Z2r 0) (cl_cons (Z2r n.signs) cl_nil))
      have c2 := cl_cons (Z2s n.follow[i]) (cl_cons (Z2r 1) (cl_cons (Z2r n.by_.length) cl_nil))
      simp only [encIs, encI] at k1 k2 c1 c2
      have d1 : ∀ m g', CallD P fl [.sl false ((n.by_[i]).map encI), .v (.int .i64 0), .v (.int .i64 n.signs)] ⟨m, g'⟩ [] (encB (risesB n.by_[i] 0 n.signs)) := fun m g' => CallD.kl k1 c1 (Z2o _)
      have d2 : ∀ m g', CallD P fl [.sl false ((n.follow[i]).map encI), .v (.int .i64 1), .v (.int .i64 n.by_.length)] ⟨m, g'⟩ [] (encB (risesB n.follow[i] 1 n.by_.length)) := fun m g' => CallD.kl k2 c2 (Z2o _)
      simp [e1, e3, e46, ei, g0, hlt, hlf, encIs]
      refine ⟨_, ⟨_, d1 _ _⟩, ?_⟩
      cases hA : risesB n.by_[i] 0 n.signs with
      | false =>
        simp [e1, e3, e46, ei, g0, hlt, hlf, encIs]
        exact h2 (fun h => by have := h i hlt; rw [okRow, gb, hA] at this; cases this) _ _ (by simp [Z43, encB])
      | true =>
        simp [e1, e3, e46, ei, g0, hlt, hlf, encIs]
        refine ⟨_, ⟨_, d2 _ _⟩, ?_⟩
        cases hB : risesB n.follow[i] 1 n.by_.length with
        | false =>
          simp [e1, e3, e46, ei, g0, hlt, hlf, encIs]
          exact h2 (fun h => by have := h i hlt; rw [okRow, gb, gf, hA, hB] at this; cases this) _ _ (by simp [Z43, encB])
        | true =>
          simp [e1, e3, e46, ei, g0, hlt, hlf, encIs]
          rw [wrap_in _ (by omega)]
          refine ⟨hlt, ?_, ?_, ?_, ?_, ?_, fun j hj => ?_⟩
          · simp [Z43, e1]
          · simp [Z43, e3, encI]
          · simp [Z43, e1]
          · simp [Z43, encI]
          · simp [g0, encNet, encIss, encIs, encI]
          · by_cases e : j = i
            · subst e; rw [okRow, gb, gf, hA, hB]; rfl
            · exact hq j (by omega)
    · simp [e1, e3, e46, ei, g0, hlt]
      exact h1 (fun j hj => hq j (by omega)) _ _
theorem net_Right_body {P : Program} {fl : FuncId} (n : Net) (ok : NetOk n) (hl : HLie P fl n) : AW P (c_net_Right fl) (RetK [2] (FzK (encB (rightN n)))) (argF [encNet n]) S0 := by
  have l1 := ok.by_
  have l2 := ok.follow
  unfold Len at l1 l2
  by_cases h1 : n.signs < 1
  · have e := rightN_no (n := n) (x := 1 ≤ n.signs) (by omega) (fun h => h.s1)
    simp [c_net_Right, encNet, encIss, encIs, h1, e]
    exact FzK_B _ _
  by_cases h2 : 400 < n.signs
  · have e := rightN_no (n := n) (x := n.signs ≤ 400) (by omega) (fun h => h.s2)
    simp [c_net_Right, encNet, encIss, encIs, h1, h2, e]
    exact FzK_B _ _
  by_cases h3 : n.by_.length = 0
  · have e := rightN_no (n := n) (x := 1 ≤ n.by_.length) (by omega) (fun h => h.n1)
    have h3' : ((n.by_.length : Int) == 0) = true := by simp; exact List.eq_nil_of_length_eq_zero h3
    have h3'' : (n.by_.length : Int) < 1 := by omega
    simp [c_net_Right, encNet, encIss, h1, h2, h3', h3'', e]
    exact FzK_B _ _
  have h3' : ((n.by_.length : Int) == 0) = false := by simp; exact fun e => h3 (by simp [e])
  have h3'' : ¬ (n.by_.length : Int) < 1 := by omega
  by_cases h4 : (301 : Int) < n.by_.length
  · have e := rightN_no (n := n) (x := n.by_.length ≤ 301) (by omega) (fun h => h.n2)
    simp [c_net_Right, encNet, encIss, h1, h2, h3', h3'', h4, e]
    exact FzK_B _ _
  by_cases h5 : ¬ (n.follow.length = n.by_.length)
  · have e := rightN_no (n := n) h5 (fun h => h.len)
    have h5' : ((n.follow.length : Int) != n.by_.length) = true := by simp; omega
    simp [c_net_Right, encNet, encIss, h1, h2, h3', h3'', h4, h5', e]
    exact FzK_B _ _
  have h5 : n.follow.length = n.by_.length := Decidable.not_not.mp h5
  have h5' : ((n.follow.length : Int) != n.by_.length) = false := by simp; omega
  have hlt : 0 < n.by_.length := by omega
  have hg0 : n.by_[0]? = some n.by_[0] := List.getElem?_eq_getElem hlt
  have gb : n.by_.getD 0 [] = n.by_[0] := by rw [List.getD_eq_getElem?_getD, hg0]; rfl
  by_cases h6 : (0 : Int) < (n.by_[0]).length
  · have e := rightN_no (n := n) (x := n.by_.getD 0 [] = []) (by rw [gb]; intro h; rw [h] at h6; simp at h6) (fun h => h.by0)
    have h6' : 0 < (n.by_[0]).length := by omega
    simp [c_net_Right, encNet, encIss, encIs, h1, h2, h3', h3'', h4, h5', hg0, h6, h6', e]
    exact FzK_B _ _
  have h6' : ¬ 0 < (n.by_[0]).length := by omega
  have h60 : n.by_[0] = [] := List.eq_nil_of_length_eq_zero (by omega)
  have k1 := hl n.last (by simp [Net.rows]) 0 n.by_.length
  have c1 := cl_cons (Z2s n.last) (cl_cons (Z2r 0) (cl_cons (Z2r n.by_.length) cl_nil))
  simp only [encIs, encI] at k1 c1
  simp [c_net_Right, encNet, encIss, encIs, h1, h2, h3', h3'', h4, h5', hg0, h6, h6', h60]
  refine CallR.pure k1 c1 (Z2o _) ?_
  cases h7 : risesB n.last 0 n.by_.length with
  | false =>
    have e := rightN_no (n := n) (x := risesB n.last 0 n.by_.length = true) (by rw [h7]; simp) (fun h => risesB_iff.mpr h.last)
    simp [c_net_Right, encNet, encIss, encIs, h1, h2, h3', h3'', h4, h5', hg0, h6, h6', e]
    exact FzK_B _ _
  | true =>
    simp
    refine nr_loop (n := n) hl h5 (by omega) (by simp [Z43]) (by simp [Z43, encI]) (by simp [Z43, encI]) (by simp [Z43, encI]) (by simp [Z4e, encNet, encIss, encIs, encI]) (fun h f' S' => ?_) (fun h f' S' e2 => ?_)
    · have e : rightN n = true := by
        simp only [rightN, Bool.and_eq_true, decide_eq_true_eq, List.all_eq_true, List.mem_range]
        refine ⟨⟨⟨⟨⟨⟨⟨by omega, by omega⟩, by omega⟩, by omega⟩, h5⟩, by rw [gb, h60]; rfl⟩, h7⟩, fun i hi => ?_⟩
        have := h i hi
        simpa [okRow] using this
      simp [e]
      exact FzK_B _ _
    · have e := rightN_no (n := n) h (fun R i hi => by
        have hi2 : i < n.follow.length := by omega
        rw [okRow, List.getD_eq_getElem?_getD, List.getElem?_eq_getElem hi, List.getD_eq_getElem?_getD, List.getElem?_eq_getElem hi2]
        simp only [Option.getD_some, Bool.and_eq_true]
        exact ⟨risesB_iff.mpr (R.by_ i hi), risesB_iff.mpr (R.follow i hi2)⟩)
      simp [e2, e]
      exact FzK_B _ _
theorem Right13_body {P : Program} {fl : FuncId} (n : Net) (ok : NetOk n) (hl : HLie P fl n) : AW P (c_caesuraref13_Right fl) (RetK [2] (FzK (encB (rightN n)))) (argF [encNet n]) S0 := by
  have l1 := ok.by_
  have l2 := ok.follow
  unfold Len at l1 l2
  by_cases h1 : n.signs < 1
  · have e := rightN_no (n := n) (x := 1 ≤ n.signs) (by omega) (fun h => h.s1)
    simp [c_caesuraref13_Right, encNet, encIss, encIs, h1, e]
    exact FzK_B _ _
  by_cases h2 : 400 < n.signs
  · have e := rightN_no (n := n) (x := n.signs ≤ 400) (by omega) (fun h => h.s2)
    simp [c_caesuraref13_Right, encNet, encIss, encIs, h1, h2, e]
    exact FzK_B _ _
  by_cases h3 : n.by_.length = 0
  · have e := rightN_no (n := n) (x := 1 ≤ n.by_.length) (by omega) (fun h => h.n1)
    have h3' : ((n.by_.length : Int) == 0) = true := by simp; exact List.eq_nil_of_length_eq_zero h3
    have h3'' : (n.by_.length : Int) < 1 := by omega
    simp [c_caesuraref13_Right, encNet, encIss, h1, h2, h3', h3'', e]
    exact FzK_B _ _
  have h3' : ((n.by_.length : Int) == 0) = false := by simp; exact fun e => h3 (by simp [e])
  have h3'' : ¬ (n.by_.length : Int) < 1 := by omega
  by_cases h4 : (301 : Int) < n.by_.length
  · have e := rightN_no (n := n) (x := n.by_.length ≤ 301) (by omega) (fun h => h.n2)
    simp [c_caesuraref13_Right, encNet, encIss, h1, h2, h3', h3'', h4, e]
    exact FzK_B _ _
  by_cases h5 : ¬ (n.follow.length = n.by_.length)
  · have e := rightN_no (n := n) h5 (fun h => h.len)
    have h5' : ((n.follow.length : Int) != n.by_.length) = true := by simp; omega
    simp [c_caesuraref13_Right, encNet, encIss, h1, h2, h3', h3'', h4, h5', e]
    exact FzK_B _ _
  have h5 : n.follow.length = n.by_.length := Decidable.not_not.mp h5
  have h5' : ((n.follow.length : Int) != n.by_.length) = false := by simp; omega
  have hlt : 0 < n.by_.length := by omega
  have hg0 : n.by_[0]? = some n.by_[0] := List.getElem?_eq_getElem hlt
  have gb : n.by_.getD 0 [] = n.by_[0] := by rw [List.getD_eq_getElem?_getD, hg0]; rfl
  by_cases h6 : (0 : Int) < (n.by_[0]).length
  · have e := rightN_no (n := n) (x := n.by_.getD 0 [] = []) (by rw [gb]; intro h; rw [h] at h6; simp at h6) (fun h => h.by0)
    have h6' : 0 < (n.by_[0]).length := by omega
    simp [c_caesuraref13_Right, encNet, encIss, encIs, h1, h2, h3', h3'', h4, h5', hg0, h6, h6', e]
    exact FzK_B _ _
  have h6' : ¬ 0 < (n.by_[0]).length := by omega
  have h60 : n.by_[0] = [] := List.eq_nil_of_length_eq_zero (by omega)
  have k1 := hl n.last (by simp [Net.rows]) 0 n.by_.length
  have c1 := cl_cons (Z2s n.last) (cl_cons (Z2r 0) (cl_cons (Z2r n.by_.length) cl_nil))
  simp only [encIs, encI] at k1 c1
  simp [c_caesuraref13_Right, encNet, encIss, encIs, h1, h2, h3', h3'', h4, h5', hg0, h6, h6', h60]
  refine CallR.pure k1 c1 (Z2o _) ?_
  cases h7 : risesB n.last 0 n.by_.length with
  | false =>
    have e := rightN_no (n := n) (x := risesB n.last 0 n.by_.length = true) (by rw [h7]; simp) (fun h => risesB_iff.mpr h.last)
    simp [c_caesuraref13_Right, encNet, encIss, encIs, h1, h2, h3', h3'', h4, h5', hg0, h6, h6', e]
    exact FzK_B _ _
  | true =>
    simp
    refine rr_loop (n := n) hl h5 (by omega) (by simp [Z43]) (by simp [Z43, encI]) (by simp [Z43]) (by simp [Z43, encI]) (by simp [Z4e, encNet, encIss, encIs, encI]) (fun h f' S' => ?_) (fun h f' S' e2 => ?_)
    · have e : rightN n = true := by
        simp only [rightN, Bool.and_eq_true, decide_eq_true_eq, List.all_eq_true, List.mem_range]
        refine ⟨⟨⟨⟨⟨⟨⟨by omega, by omega⟩, by omega⟩, by omega⟩, h5⟩, by rw [gb, h60]; rfl⟩, h7⟩, fun i hi => ?_⟩
        have := h i hi
        simpa [okRow] using this
      simp [e]
      exact FzK_B _ _
    · have e := rightN_no (n := n) h (fun R i hi => by
        have hi2 : i < n.follow.length := by omega
        rw [okRow, List.getD_eq_getElem?_getD, List.getElem?_eq_getElem hi, List.getD_eq_getElem?_getD, List.getElem?_eq_getElem hi2]
        simp only [Option.getD_some, Bool.and_eq_true]
        exact ⟨risesB_iff.mpr (R.by_ i hi), risesB_iff.mpr (R.follow i hi2)⟩)
      simp [e2, e]
      exact FzK_B _ _
theorem Same13_body {P : Program} {fq fe : FuncId} (a b : Net) (h1 : ∀ x y : List (List Int), (x = a.by_ ∧ y = b.by_) ∨ (x = a.follow ∧ y = b.follow) → PureC P fq [encIss x, encIss y] (encB (x == y))) (h2 : PureC P fe [encIs a.last, encIs b.last] (encB (a.last == b.last))) :
    AW P (c_caesuraref13_Same fq fe) (RetK [4] (FzK (encB (decide (a = b))))) (argF [encNet a, encNet b]) S0 := by
  have k1 := h1 a.by_ b.by_ (.inl ⟨rfl, rfl⟩)
  have k2 := h1 a.follow b.follow (.inr ⟨rfl, rfl⟩)
  have c1 : ∀ x y : List (List Int), ∀ z ∈ [encIss x, encIss y], Closed z := fun x y => cl_cons (Z2t x) (cl_cons (Z2t y) (cl_nil))
  have c2 := cl_cons (Z2s a.last) (cl_cons (Z2s b.last) cl_nil)
  have c11 := c1 a.by_ b.by_
  have c12 := c1 a.follow b.follow
  simp only [encIss, encIs] at k1 k2 c11 c12 c2 h2
  have ext : a.signs = b.signs → a.by_ = b.by_ → a.follow = b.follow → a.last = b.last → a = b := by
    intro q1 q2 q3 q4; cases a; cases b; simp_all
  by_cases hs : ¬ (a.signs = b.signs)
  · have e : decide (a = b) = false := by rw [decide_eq_false_iff_not]; rintro rfl; exact hs rfl
    have hs' : (a.signs == b.signs) = false := by simp [hs]
    simp [c_caesuraref13_Same, encNet, encIss, encIs, hs', e]
    exact FzK_B _ _
  have hs : a.signs = b.signs := Decidable.not_not.mp hs
  have hs' : (a.signs == b.signs) = true := by simp [hs]
  simp [c_caesuraref13_Same, encNet, encIss, encIs, hs']
  refine CallR.pure k1 c11 (Z2o _) ?_
  by_cases hb : ¬ (a.by_ = b.by_)
  · have e : decide (a = b) = false := by rw [decide_eq_false_iff_not]; rintro rfl; exact hb rfl
    have hb' : (a.by_ == b.by_) = false := by simp [hb]
    simp [hb', e]
    exact FzK_B _ _
  have hb : a.by_ = b.by_ := Decidable.not_not.mp hb
  have hb' : (a.by_ == b.by_) = true := by simp [hb]
  simp [hb']
  refine CallR.pure k2 c12 (Z2o _) ?_
  by_cases hf : ¬ (a.follow = b.follow)
  · have e : decide (a = b) = false := by rw [decide_eq_false_iff_not]; rintro rfl; exact hf rfl
    have hf' : (a.follow == b.follow) = false := by simp [hf]
    simp [hf', e]
    exact FzK_B _ _
  have hf : a.follow = b.follow := Decidable.not_not.mp hf
  have hf' : (a.follow == b.follow) = true := by simp [hf]
  simp [hf']
  refine CallR.pure h2 c2 (Z2o _) ?_
  have e : decide (a = b) = (a.last == b.last) := by
    rw [Bool.eq_iff_iff, decide_eq_true_eq, beq_iff_eq]
    exact ⟨fun h => by rw [h], fun h => ext hs hb hf h⟩
  simp [e]
  exact FzK_B _ _
end Go.Rf

