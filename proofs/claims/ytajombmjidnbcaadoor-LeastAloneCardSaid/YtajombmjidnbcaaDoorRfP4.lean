import Derived.Test.YtajombmjidnbcaaDoorRfP3
/- Own work: the document's classes, and its least one. -/
set_option linter.unusedVariables false
set_option linter.unusedSimpArgs false
namespace Go.Rf
open Go.RowKit
def c_rc_find : AC :=
  (.block 2 (.loop (.seq (.seq (.reg none [
        ⟨(some 19), .mv (.t 7), none, none⟩,
        ⟨(some 20), .mv (.t 6), none, none⟩,
        ⟨(some 21), .bin .lss (.t 19) (.t 20), none, none⟩,
        ⟨(some 22), .mv (.t 21), none, none⟩,
        ⟨(some 23), .mv (.t 3), (some (22, true)), none⟩,
        ⟨(some 24), .mv (.t 6), (some (22, true)), none⟩,
        ⟨(some 25), .idxA 1 (.t 23) (.t 24), (some (22, true)), none⟩,
        ⟨(some 26), .load none (.t 25), (some (22, true)), none⟩,
        ⟨(some 27), .mv (.t 7), (some (22, true)), none⟩,
        ⟨(some 28), .idxA 1 (.t 26) (.t 27), (some (22, true)), none⟩,
        ⟨(some 29), .load none (.t 28), (some (22, true)), none⟩,
        ⟨(some 30), .pick (.t 22) (.t 29) (.c (.v (.bool false))), none, none⟩])
       (.cond (.t 30) .skip (.exit 2)))
       (.block 3 (.reg none [
         ⟨(some 31), .mv (.t 7), none, none⟩,
         ⟨(some 32), .bin .add (.t 31) (.c (.v (.int .i64 1))), none, none⟩,
         ⟨(some 7), .mv (.t 32), none, none⟩])))))
def c_rc_num : AC :=
  (.seq (.reg none [
      ⟨(some 33), .mv (.t 7), none, none⟩,
      ⟨(some 34), .mv (.t 6), none, none⟩,
      ⟨(some 35), .bin .lss (.t 33) (.t 34), none, none⟩])
     (.cond (.t 35) (.reg none [
       ⟨(some 36), .mv (.t 4), none, none⟩,
       ⟨(some 37), .mv (.t 4), none, none⟩,
       ⟨(some 38), .mv (.t 7), none, none⟩,
       ⟨(some 39), .idxA 1 (.t 37) (.t 38), none, none⟩,
       ⟨(some 40), .load none (.t 39), none, none⟩,
       ⟨(some 41), .bslice 1 1 (.v (.int .i64 0)) [(0, (.t 40))], none, none⟩,
       ⟨(some 42), .app 1 8 (.t 36) (.t 41), none, none⟩,
       ⟨(some 4), .mv (.t 42), none, none⟩]) (.seq (.reg none [
       ⟨(some 43), .mv (.t 4), none, none⟩,
       ⟨(some 44), .mv (.t 5), none, none⟩,
       ⟨(some 45), .bslice 1 1 (.v (.int .i64 0)) [(0, (.t 44))], none, none⟩,
       ⟨(some 46), .app 1 8 (.t 43) (.t 45), none, none⟩,
       ⟨(some 4), .mv (.t 46), none, none⟩])
      (.reg none [
       ⟨(some 47), .mv (.t 5), none, none⟩,
       ⟨(some 48), .bin .add (.t 47) (.c (.v (.int .i64 1))), none, none⟩,
       ⟨(some 5), .mv (.t 48), none, none⟩]))))
def c_caesuraref17_Classes (f_caesuraref15_Right f_caesuraref17_apart : FuncId) : AC :=
  (.seq (.reg none [
   ⟨(some 1), .box 3 (.t 0), none, none⟩,
   ⟨(some 2), .mv (.c (.sl true [])), none, none⟩])
  (.seq (.seq (.reg none [
   ⟨(some 8), .load (some 3) (.t 1), none, none⟩,
   ⟨(some 9), .mv (.c .junk), none, (some ((.c (.clo f_caesuraref15_Right [] [])), [(.t 8)]))⟩,
   ⟨(some 10), .un .not (.t 9), none, none⟩])
  (.cond (.t 10) (.seq (.reg none [
    ⟨(some 2), .mv (.c (.sl true [])), none, none⟩])
   .ret) .skip))
  (.seq (.reg none [
   ⟨(some 11), .load (some 3) (.t 1), none, none⟩,
   ⟨(some 12), .mv (.c .junk), none, (some ((.c (.clo f_caesuraref17_apart [] [])), [(.t 11)]))⟩,
   ⟨(some 3), .mv (.t 12), none, none⟩])
  (.seq (.reg none [
   ⟨(some 4), .mv (.c (.sl true [])), none, none⟩])
  (.seq (.reg none [
   ⟨(some 5), .mv (.c (.v (.int .i64 0))), none, none⟩])
  (.seq (.seq (.reg none [
   ⟨(some 6), .mv (.c (.v (.int .i64 0))), none, none⟩])
  (.block 0 (.loop (.seq (.seq (.reg none [
     ⟨(some 13), .mv (.t 6), none, none⟩,
     ⟨(some 14), .mv (.t 3), none, none⟩,
     ⟨(some 15), .len (.t 14), none, none⟩,
     ⟨(some 16), .bin .lss (.t 13) (.t 15), none, none⟩])
    (.cond (.t 16) .skip (.exit 0)))
    (.seq (.block 1 (.seq (.reg none [
      ⟨(some 7), .mv (.c (.v (.int .i64 0))), none, none⟩])
     (.seq c_rc_find
     c_rc_num)))
    (.reg none [
     ⟨(some 17), .mv (.t 6), none, none⟩,
     ⟨(some 18), .bin .add (.t 17) (.c (.v (.int .i64 1))), none, none⟩,
     ⟨(some 6), .mv (.t 18), none, none⟩]))))))
  (.seq (.reg none [
   ⟨(some 49), .mv (.t 4), none, none⟩,
   ⟨(some 2), .mv (.t 49), none, none⟩])
  .ret)))))))
def c_ro_add : AC :=
  (.reg (some [[], [], [], [], [], [true], [false, true], [false, false, true], [false, false, false, true], [false, false, false, false, true], [false, false, false, false, false, true], [false, false, false, false, false, false, true], [false, false, false, false, false, false, false, true], [false, false, false, false, false, false, false, false, true], [false, false, false, false, false, false, false, false, false, true], [false, false, false, false, false, false, false, false, false, false, true], [], [true]]) [
      ⟨(some 77), .fieldA 1 (.t 6), none, none⟩,
      ⟨(some 78), .load none (.t 77), none, none⟩,
      ⟨(some 79), .mv (.t 8), none, none⟩,
      ⟨(some 80), .bslice 1 1 (.sl true []) [(0, (.t 79))], none, none⟩,
      ⟨(some 81), .app 1 24 (.t 78) (.t 80), none, none⟩,
      ⟨(some 82), .fieldA 2 (.t 6), none, none⟩,
      ⟨(some 83), .load none (.t 82), none, none⟩,
      ⟨(some 84), .fieldA 2 (.t 1), none, none⟩,
      ⟨(some 85), .load none (.t 84), none, none⟩,
      ⟨(some 86), .mv (.t 5), none, none⟩,
      ⟨(some 87), .mv (.t 7), none, none⟩,
      ⟨(some 88), .idxA 1 (.t 86) (.t 87), none, none⟩,
      ⟨(some 89), .load none (.t 88), none, none⟩,
      ⟨(some 90), .idxA 1 (.t 85) (.t 89), none, none⟩,
      ⟨(some 91), .load none (.t 90), none, none⟩,
      ⟨(some 92), .bslice 1 1 (.v (.bool false)) [(0, (.t 91))], none, none⟩,
      ⟨(some 93), .app 1 1 (.t 83) (.t 92), none, none⟩,
      ⟨(some 94), .fieldA 1 (.t 6), none, none⟩,
      ⟨none, .store 1 (.t 94) (.t 81), none, none⟩,
      ⟨(some 95), .fieldA 2 (.t 6), none, none⟩,
      ⟨none, .store 1 (.t 95) (.t 93), none, none⟩])
def c_ro_find : AC :=
  (.block 4 (.loop (.seq (.seq (.reg (some []) [
           ⟨(some 45), .mv (.t 11), none, none⟩,
           ⟨(some 46), .mv (.t 5), none, none⟩,
           ⟨(some 47), .len (.t 46), none, none⟩,
           ⟨(some 48), .bin .lss (.t 45) (.t 47), none, none⟩,
           ⟨(some 49), .mv (.t 48), none, none⟩,
           ⟨(some 50), .mv (.t 4), (some (49, true)), none⟩,
           ⟨(some 51), .mv (.t 5), (some (49, true)), none⟩,
           ⟨(some 52), .mv (.t 11), (some (49, true)), none⟩,
           ⟨(some 53), .idxA 1 (.t 51) (.t 52), (some (49, true)), none⟩,
           ⟨(some 54), .load none (.t 53), (some (49, true)), none⟩,
           ⟨(some 55), .idxA 1 (.t 50) (.t 54), (some (49, true)), none⟩,
           ⟨(some 56), .load none (.t 55), (some (49, true)), none⟩,
           ⟨(some 57), .mv (.t 4), (some (49, true)), none⟩,
           ⟨(some 58), .mv (.t 10), (some (49, true)), none⟩,
           ⟨(some 59), .idxA 1 (.t 57) (.t 58), (some (49, true)), none⟩,
           ⟨(some 60), .load none (.t 59), (some (49, true)), none⟩,
           ⟨(some 61), .bin .neq (.t 56) (.t 60), (some (49, true)), none⟩,
           ⟨(some 62), .pick (.t 49) (.t 61) (.c (.v (.bool false))), none, none⟩])
          (.cond (.t 62) .skip (.exit 4)))
          (.block 5 (.reg none [
            ⟨(some 63), .mv (.t 11), none, none⟩,
            ⟨(some 64), .bin .add (.t 63) (.c (.v (.int .i64 1))), none, none⟩,
            ⟨(some 11), .mv (.t 64), none, none⟩])))))
def c_ro_row : AC :=
  (.block 2 (.loop (.seq (.seq (.reg none [
        ⟨(some 28), .mv (.t 9), none, none⟩,
        ⟨(some 29), .fieldA 0 (.t 1), none, none⟩,
        ⟨(some 30), .load none (.t 29), none, none⟩,
        ⟨(some 31), .bin .lss (.t 28) (.t 30), none, none⟩])
       (.cond (.t 31) .skip (.exit 2)))
       (.seq (.block 3 (.seq (.reg (some []) [
         ⟨(some 34), .fieldA 1 (.t 1), none, none⟩,
         ⟨(some 35), .load none (.t 34), none, none⟩,
         ⟨(some 36), .mv (.t 5), none, none⟩,
         ⟨(some 37), .mv (.t 7), none, none⟩,
         ⟨(some 38), .idxA 1 (.t 36) (.t 37), none, none⟩,
         ⟨(some 39), .load none (.t 38), none, none⟩,
         ⟨(some 40), .idxA 1 (.t 35) (.t 39), none, none⟩,
         ⟨(some 41), .load none (.t 40), none, none⟩,
         ⟨(some 42), .mv (.t 9), none, none⟩,
         ⟨(some 43), .idxA 1 (.t 41) (.t 42), none, none⟩,
         ⟨(some 44), .load none (.t 43), none, none⟩,
         ⟨(some 10), .mv (.t 44), none, none⟩])
        (.seq (.reg none [
         ⟨(some 11), .mv (.c (.v (.int .i64 0))), none, none⟩])
        (.seq c_ro_find
        (.seq (.seq (.reg none [
         ⟨(some 65), .mv (.t 11), none, none⟩,
         ⟨(some 66), .mv (.t 5), none, none⟩,
         ⟨(some 67), .len (.t 66), none, none⟩,
         ⟨(some 68), .bin .eql (.t 65) (.t 67), none, none⟩])
        (.cond (.t 68) (.reg none [
          ⟨(some 69), .mv (.t 5), none, none⟩,
          ⟨(some 70), .mv (.t 10), none, none⟩,
          ⟨(some 71), .bslice 1 1 (.v (.int .i64 0)) [(0, (.t 70))], none, none⟩,
          ⟨(some 72), .app 1 8 (.t 69) (.t 71), none, none⟩,
          ⟨(some 5), .mv (.t 72), none, none⟩]) .skip))
        (.reg none [
         ⟨(some 73), .mv (.t 8), none, none⟩,
         ⟨(some 74), .mv (.t 11), none, none⟩,
         ⟨(some 75), .bslice 1 1 (.v (.int .i64 0)) [(0, (.t 74))], none, none⟩,
         ⟨(some 76), .app 1 8 (.t 73) (.t 75), none, none⟩,
         ⟨(some 8), .mv (.t 76), none, none⟩]))))))
       (.reg none [
        ⟨(some 32), .mv (.t 9), none, none⟩,
        ⟨(some 33), .bin .add (.t 32) (.c (.v (.int .i64 1))), none, none⟩,
        ⟨(some 9), .mv (.t 33), none, none⟩])))))
def c_ro_out : AC :=
  (.block 0 (.loop (.seq (.seq (.reg none [
     ⟨(some 22), .mv (.t 7), none, none⟩,
     ⟨(some 23), .mv (.t 5), none, none⟩,
     ⟨(some 24), .len (.t 23), none, none⟩,
     ⟨(some 25), .bin .lss (.t 22) (.t 24), none, none⟩])
    (.cond (.t 25) .skip (.exit 0)))
    (.seq (.block 1 (.seq (.reg none [
      ⟨(some 8), .mv (.c (.sl true [])), none, none⟩])
     (.seq (.seq (.reg none [
      ⟨(some 9), .mv (.c (.v (.int .i64 0))), none, none⟩])
     c_ro_row)
     c_ro_add)))
    (.reg none [
     ⟨(some 26), .mv (.t 7), none, none⟩,
     ⟨(some 27), .bin .add (.t 26) (.c (.v (.int .i64 1))), none, none⟩,
     ⟨(some 7), .mv (.t 27), none, none⟩])))))
def c_ro_fin : AC :=
  (.seq (.reg none [
   ⟨(some 96), .load (some 3) (.t 6), none, none⟩,
   ⟨none, .store 3 (.t 2) (.t 96), none, none⟩,
   ⟨(some 3), .mv (.c (.v (.int .i64 0))), none, none⟩])
  .ret)
def c_caesuraref17_Of (f_caesuraref15_Right f_caesuraref17_Classes : FuncId) : AC :=
  (.seq (.reg none [
   ⟨(some 1), .box 3 (.t 0), none, none⟩,
   ⟨(some 2), .alloc (.agg [(.v (.int .i64 0)), (.sl true []), (.sl true [])]) 3, none, none⟩,
   ⟨(some 3), .mv (.c (.v (.int .i64 0))), none, none⟩])
  (.seq (.seq (.reg none [
   ⟨(some 12), .load (some 3) (.t 1), none, none⟩,
   ⟨(some 13), .mv (.c .junk), none, (some ((.c (.clo f_caesuraref15_Right [] [])), [(.t 12)]))⟩,
   ⟨(some 14), .un .not (.t 13), none, none⟩])
  (.cond (.t 14) (.seq (.reg none [
    ⟨(some 15), .build (.agg [(.v (.int .i64 0)), (.sl true []), (.sl true [])]) [] [], none, none⟩,
    ⟨none, .store 3 (.t 2) (.t 15), none, none⟩,
    ⟨(some 3), .mv (.c (.v (.int .i64 1))), none, none⟩])
   .ret) .skip))
  (.seq (.reg none [
   ⟨(some 16), .load (some 3) (.t 1), none, none⟩,
   ⟨(some 17), .mv (.c .junk), none, (some ((.c (.clo f_caesuraref17_Classes [] [])), [(.t 16)]))⟩,
   ⟨(some 4), .mv (.t 17), none, none⟩])
  (.seq (.reg none [
   ⟨(some 18), .bslice 1 1 (.v (.int .i64 0)) [(0, (.c (.v (.int .i64 0))))], none, none⟩,
   ⟨(some 5), .mv (.t 18), none, none⟩])
  (.seq (.reg none [
   ⟨(some 19), .fieldA 0 (.t 1), none, none⟩,
   ⟨(some 20), .load none (.t 19), none, none⟩,
   ⟨(some 21), .build (.agg [(.v (.int .i64 0)), (.sl true []), (.sl true [])]) [(0, 1)] [(0, (.t 20))], none, none⟩,
   ⟨(some 6), .alloc (.agg [(.v (.int .i64 0)), (.sl true []), (.sl true [])]) 3, none, none⟩,
   ⟨none, .store 3 (.t 6) (.t 21), none, none⟩])
  (.seq (.seq (.reg none [
   ⟨(some 7), .mv (.c (.v (.int .i64 0))), none, none⟩])
  c_ro_out)
  c_ro_fin))))))
/-! ### Of -/
theorem idxOf_atI {l : List Int} {x : Int} {j : Nat} (hj : j < l.length) (he : l[j] = x) (hn : ∀ m (h : m < j), l[m]'(by omega) ≠ x) : l.idxOf x = j := by
  refine idxOf_at hj he fun hm => ?_
  obtain ⟨m, hm1, hm2⟩ := List.mem_iff_getElem.mp hm
  simp only [List.length_take] at hm1
  rw [List.getElem_take] at hm2
  exact hn m (by omega) hm2
end Go.Rf

