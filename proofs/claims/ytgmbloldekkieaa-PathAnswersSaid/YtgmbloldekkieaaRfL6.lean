import Derived.Test.YtgmbloldekkieaaRfB5
import Derived.Test.YtgmbloldekkieaaRfB6
import Derived.Test.YtgmbloldekkieaaRfB10
import Derived.Test.YtgmbloldekkieaaRfL7
set_option linter.unusedVariables false
set_option linter.unusedSimpArgs false
namespace Go.Rf
def c_pf_in : AC :=
  (.block 2 (.loop (.seq (.seq (.reg none [
        ⟨(some 60), .mv (.t 6), none, none⟩,
        ⟨(some 61), .fieldA 0 (.t 1), none, none⟩,
        ⟨(some 62), .load none (.t 61), none, none⟩,
        ⟨(some 63), .bin .lss (.t 60) (.t 62), none, none⟩])
       (.cond (.t 63) .skip (.exit 2)))
       (.seq (.block 3 (.seq (.reg none [
         ⟨(some 66), .mv (.t 3), none, none⟩,
         ⟨(some 67), .fieldA 1 (.t 1), none, none⟩,
         ⟨(some 68), .load none (.t 67), none, none⟩,
         ⟨(some 69), .mv (.t 4), none, none⟩,
         ⟨(some 70), .idxA 1 (.t 68) (.t 69), none, none⟩,
         ⟨(some 71), .load none (.t 70), none, none⟩,
         ⟨(some 72), .mv (.t 6), none, none⟩,
         ⟨(some 73), .idxA 1 (.t 71) (.t 72), none, none⟩,
         ⟨(some 74), .load none (.t 73), none, none⟩,
         ⟨(some 75), .idxA 1 (.t 66) (.t 74), none, none⟩,
         ⟨(some 76), .load none (.t 75), none, none⟩,
         ⟨(some 7), .mv (.t 76), none, none⟩])
        (.seq (.reg none [
         ⟨(some 77), .mv (.t 5), none, none⟩,
         ⟨(some 78), .mv (.t 77), none, none⟩,
         ⟨(some 79), .mv (.t 7), (some (78, false)), none⟩,
         ⟨(some 80), .bin .geq (.t 79) (.c (.v (.int .i64 0))), (some (78, false)), none⟩,
         ⟨(some 81), .mv (.t 80), (some (78, false)), none⟩,
         ⟨(some 82), .mv (.t 7), (some (81, true)), none⟩,
         ⟨(some 83), .mv (.t 3), (some (81, true)), none⟩,
         ⟨(some 84), .mv (.t 4), (some (81, true)), none⟩,
         ⟨(some 85), .idxA 1 (.t 83) (.t 84), (some (81, true)), none⟩,
         ⟨(some 86), .load none (.t 85), (some (81, true)), none⟩,
         ⟨(some 87), .bin .sub (.t 86) (.c (.v (.int .i64 1))), (some (81, true)), none⟩,
         ⟨(some 88), .bin .eql (.t 82) (.t 87), (some (81, true)), none⟩,
         ⟨(some 89), .pick (.t 81) (.t 88) (.c (.v (.bool false))), (some (78, false)), none⟩,
         ⟨(some 90), .pick (.t 78) (.c (.v (.bool true))) (.t 89), none, none⟩,
         ⟨(some 5), .mv (.t 90), none, none⟩])
        (.seq (.reg none [
         ⟨(some 91), .mv (.t 7), none, none⟩,
         ⟨(some 92), .bin .geq (.t 91) (.c (.v (.int .i64 0))), none, none⟩,
         ⟨(some 93), .mv (.t 92), none, none⟩,
         ⟨(some 94), .mv (.t 3), (some (93, true)), none⟩,
         ⟨(some 95), .mv (.t 4), (some (93, true)), none⟩,
         ⟨(some 96), .idxA 1 (.t 94) (.t 95), (some (93, true)), none⟩,
         ⟨(some 97), .load none (.t 96), (some (93, true)), none⟩,
         ⟨(some 98), .bin .lss (.t 97) (.c (.v (.int .i64 0))), (some (93, true)), none⟩,
         ⟨(some 99), .mv (.t 98), (some (93, true)), none⟩,
         ⟨(some 100), .mv (.t 3), (some (99, false)), none⟩,
         ⟨(some 101), .mv (.t 4), (some (99, false)), none⟩,
         ⟨(some 102), .idxA 1 (.t 100) (.t 101), (some (99, false)), none⟩,
         ⟨(some 103), .load none (.t 102), (some (99, false)), none⟩,
         ⟨(some 104), .mv (.t 7), (some (99, false)), none⟩,
         ⟨(some 105), .bin .add (.t 104) (.c (.v (.int .i64 1))), (some (99, false)), none⟩,
         ⟨(some 106), .bin .gtr (.t 103) (.t 105), (some (99, false)), none⟩,
         ⟨(some 107), .pick (.t 99) (.c (.v (.bool true))) (.t 106), (some (93, true)), none⟩,
         ⟨(some 108), .pick (.t 93) (.t 107) (.c (.v (.bool false))), none, none⟩])
        (.cond (.t 108) (.seq (.reg none [
          ⟨(some 2), .mv (.c (.v (.bool false))), none, none⟩])
         .ret) .skip)))))
       (.reg none [
        ⟨(some 64), .mv (.t 6), none, none⟩,
        ⟨(some 65), .bin .add (.t 64) (.c (.v (.int .i64 1))), none, none⟩,
        ⟨(some 6), .mv (.t 65), none, none⟩])))))
def c_pf_tail (f_path_First : FuncId) : AC :=
  (.seq (.reg none [
   ⟨(some 119), .load (some 3) (.t 1), none, none⟩,
   ⟨(some 120), .mv (.c .junk), none, (some ((.c (.clo f_path_First [] [])), [(.t 119)]))⟩,
   ⟨(some 118), .mv (.t 120), none, none⟩,
   ⟨(some 121), .ext 0 (.t 118), none, none⟩,
   ⟨(some 122), .ext 1 (.t 118), none, none⟩,
   ⟨(some 8), .mv (.t 121), none, none⟩,
   ⟨(some 9), .mv (.t 122), none, none⟩])
  (.seq (.reg none [
   ⟨(some 123), .mv (.t 9), none, none⟩,
   ⟨(some 124), .mv (.t 3), none, none⟩,
   ⟨(some 125), .idxA 1 (.t 124) (.c (.v (.int .i64 0))), none, none⟩,
   ⟨(some 126), .load none (.t 125), none, none⟩,
   ⟨(some 127), .bin .geq (.t 126) (.c (.v (.int .i64 0))), none, none⟩,
   ⟨(some 128), .beq false (.t 123) (.t 127), none, none⟩,
   ⟨(some 129), .mv (.t 128), none, none⟩,
   ⟨(some 130), .mv (.t 9), (some (129, true)), none⟩,
   ⟨(some 131), .un .not (.t 130), (some (129, true)), none⟩,
   ⟨(some 132), .mv (.t 131), (some (129, true)), none⟩,
   ⟨(some 133), .mv (.t 8), (some (132, false)), none⟩,
   ⟨(some 134), .len (.t 133), (some (132, false)), none⟩,
   ⟨(some 135), .mv (.t 3), (some (132, false)), none⟩,
   ⟨(some 136), .idxA 1 (.t 135) (.c (.v (.int .i64 0))), (some (132, false)), none⟩,
   ⟨(some 137), .load none (.t 136), (some (132, false)), none⟩,
   ⟨(some 138), .bin .eql (.t 134) (.t 137), (some (132, false)), none⟩,
   ⟨(some 139), .pick (.t 132) (.c (.v (.bool true))) (.t 138), (some (129, true)), none⟩,
   ⟨(some 140), .pick (.t 129) (.t 139) (.c (.v (.bool false))), none, none⟩,
   ⟨(some 2), .mv (.t 140), none, none⟩])
  .ret))
def c_caesuralaw18_PathFar (f_caesuralaw18_alive f_caesuraref15_Great f_caesuraref15_Right f_path_Far f_path_First : FuncId) : AC :=
  (.seq (.reg none [
   ⟨(some 1), .box 3 (.t 0), none, none⟩,
   ⟨(some 2), .mv (.c (.v (.bool false))), none, none⟩])
  (.seq (.seq (.reg none [
   ⟨(some 10), .mv (.c .junk), none, (some ((.c (.clo f_caesuralaw18_alive [] [])), []))⟩,
   ⟨(some 11), .un .not (.t 10), none, none⟩])
  (.cond (.t 11) (.seq (.reg none [
    ⟨(some 2), .mv (.c (.v (.bool false))), none, none⟩])
   .ret) .skip))
  (.seq (.seq (.reg none [
   ⟨(some 12), .load (some 3) (.t 1), none, none⟩,
   ⟨(some 13), .mv (.c .junk), none, (some ((.c (.clo f_caesuraref15_Great [] [])), [(.t 12), (.c (.v (.int .i64 600)))]))⟩,
   ⟨(some 14), .mv (.t 13), none, none⟩,
   ⟨(some 15), .load (some 3) (.t 1), (some (14, false)), none⟩,
   ⟨(some 16), .mv (.c .junk), (some (14, false)), (some ((.c (.clo f_caesuraref15_Right [] [])), [(.t 15)]))⟩,
   ⟨(some 17), .un .not (.t 16), (some (14, false)), none⟩,
   ⟨(some 18), .pick (.t 14) (.c (.v (.bool true))) (.t 17), none, none⟩])
  (.cond (.t 18) (.seq (.reg none [
    ⟨(some 2), .mv (.c (.v (.bool true))), none, none⟩])
   .ret) .skip))
  (.seq (.reg none [
   ⟨(some 19), .load (some 3) (.t 1), none, none⟩,
   ⟨(some 20), .mv (.c .junk), none, (some ((.c (.clo f_path_Far [] [])), [(.t 19)]))⟩,
   ⟨(some 3), .mv (.t 20), none, none⟩])
  (.seq (.seq (.reg none [
   ⟨(some 21), .mv (.t 3), none, none⟩,
   ⟨(some 22), .len (.t 21), none, none⟩,
   ⟨(some 23), .fieldA 1 (.t 1), none, none⟩,
   ⟨(some 24), .load none (.t 23), none, none⟩,
   ⟨(some 25), .len (.t 24), none, none⟩,
   ⟨(some 26), .bin .neq (.t 22) (.t 25), none, none⟩])
  (.cond (.t 26) (.seq (.reg none [
    ⟨(some 2), .mv (.c (.v (.bool false))), none, none⟩])
   .ret) .skip))
  (.seq (.seq (.reg none [
   ⟨(some 4), .mv (.c (.v (.int .i64 0))), none, none⟩])
  (.block 0 (.loop (.seq (.seq (.reg none [
     ⟨(some 27), .mv (.t 4), none, none⟩,
     ⟨(some 28), .mv (.t 3), none, none⟩,
     ⟨(some 29), .len (.t 28), none, none⟩,
     ⟨(some 30), .bin .lss (.t 27) (.t 29), none, none⟩])
    (.cond (.t 30) .skip (.exit 0)))
    (.seq (.block 1 (.seq (.seq (.reg (some []) [
      ⟨(some 33), .mv (.t 3), none, none⟩,
      ⟨(some 34), .mv (.t 4), none, none⟩,
      ⟨(some 35), .idxA 1 (.t 33) (.t 34), none, none⟩,
      ⟨(some 36), .load none (.t 35), none, none⟩,
      ⟨(some 37), .bin .eql (.t 36) (.c (.v (.int .i64 0))), none, none⟩,
      ⟨(some 38), .fieldA 2 (.t 1), none, none⟩,
      ⟨(some 39), .load none (.t 38), none, none⟩,
      ⟨(some 40), .mv (.t 4), none, none⟩,
      ⟨(some 41), .idxA 1 (.t 39) (.t 40), none, none⟩,
      ⟨(some 42), .load none (.t 41), none, none⟩,
      ⟨(some 43), .beq true (.t 37) (.t 42), none, none⟩,
      ⟨(some 44), .mv (.t 43), none, none⟩,
      ⟨(some 45), .mv (.t 3), (some (44, false)), none⟩,
      ⟨(some 46), .mv (.t 4), (some (44, false)), none⟩,
      ⟨(some 47), .idxA 1 (.t 45) (.t 46), (some (44, false)), none⟩,
      ⟨(some 48), .load none (.t 47), (some (44, false)), none⟩,
      ⟨(some 49), .bin .lss (.t 48) (.c (.v (.int .i64 (-1)))), (some (44, false)), none⟩,
      ⟨(some 50), .pick (.t 44) (.c (.v (.bool true))) (.t 49), none, none⟩,
      ⟨(some 51), .mv (.t 50), none, none⟩,
      ⟨(some 52), .mv (.t 3), (some (51, false)), none⟩,
      ⟨(some 53), .mv (.t 4), (some (51, false)), none⟩,
      ⟨(some 54), .idxA 1 (.t 52) (.t 53), (some (51, false)), none⟩,
      ⟨(some 55), .load none (.t 54), (some (51, false)), none⟩,
      ⟨(some 56), .mv (.t 3), (some (51, false)), none⟩,
      ⟨(some 57), .len (.t 56), (some (51, false)), none⟩,
      ⟨(some 58), .bin .geq (.t 55) (.t 57), (some (51, false)), none⟩,
      ⟨(some 59), .pick (.t 51) (.c (.v (.bool true))) (.t 58), none, none⟩])
     (.cond (.t 59) (.seq (.reg none [
       ⟨(some 2), .mv (.c (.v (.bool false))), none, none⟩])
      .ret) .skip))
     (.seq (.reg none [
      ⟨(some 5), .mv (.c (.v (.bool false))), none, none⟩])
     (.seq (.seq (.reg none [
      ⟨(some 6), .mv (.c (.v (.int .i64 0))), none, none⟩])
     c_pf_in)
     (.seq (.reg none [
      ⟨(some 109), .mv (.t 3), none, none⟩,
      ⟨(some 110), .mv (.t 4), none, none⟩,
      ⟨(some 111), .idxA 1 (.t 109) (.t 110), none, none⟩,
      ⟨(some 112), .load none (.t 111), none, none⟩,
      ⟨(some 113), .bin .gtr (.t 112) (.c (.v (.int .i64 0))), none, none⟩,
      ⟨(some 114), .mv (.t 113), none, none⟩,
      ⟨(some 115), .mv (.t 5), (some (114, true)), none⟩,
      ⟨(some 116), .un .not (.t 115), (some (114, true)), none⟩,
      ⟨(some 117), .pick (.t 114) (.t 116) (.c (.v (.bool false))), none, none⟩])
     (.cond (.t 117) (.seq (.reg none [
       ⟨(some 2), .mv (.c (.v (.bool false))), none, none⟩])
      .ret) .skip))))))
    (.reg none [
     ⟨(some 31), .mv (.t 4), none, none⟩,
     ⟨(some 32), .bin .add (.t 31) (.c (.v (.int .i64 1))), none, none⟩,
     ⟨(some 4), .mv (.t 32), none, none⟩]))))))
  (c_pf_tail f_path_First)))))))
def c_caesuralaw18_PathFirst (f_caesuralaw18_alive f_caesuraref15_Great f_caesuraref15_Right f_path_First f_caesuraref15_Accepts f_caesuraref18_Before : FuncId) : AC :=
  (.seq (.reg none [
   ⟨(some 2), .box 3 (.t 0), none, none⟩,
   ⟨(some 4), .mv (.c (.v (.bool false))), none, none⟩])
  (.seq (.seq (.reg none [
   ⟨(some 7), .mv (.c .junk), none, (some ((.c (.clo f_caesuralaw18_alive [] [])), []))⟩,
   ⟨(some 8), .un .not (.t 7), none, none⟩])
  (.cond (.t 8) (.seq (.reg none [
    ⟨(some 4), .mv (.c (.v (.bool false))), none, none⟩])
   .ret) .skip))
  (.seq (.seq (.reg none [
   ⟨(some 9), .load (some 3) (.t 2), none, none⟩,
   ⟨(some 10), .mv (.c .junk), none, (some ((.c (.clo f_caesuraref15_Great [] [])), [(.t 9), (.c (.v (.int .i64 600)))]))⟩,
   ⟨(some 11), .mv (.t 10), none, none⟩,
   ⟨(some 12), .mv (.t 1), (some (11, false)), none⟩,
   ⟨(some 13), .len (.t 12), (some (11, false)), none⟩,
   ⟨(some 14), .bin .gtr (.t 13) (.c (.v (.int .i64 100))), (some (11, false)), none⟩,
   ⟨(some 15), .pick (.t 11) (.c (.v (.bool true))) (.t 14), none, none⟩,
   ⟨(some 16), .mv (.t 15), none, none⟩,
   ⟨(some 17), .load (some 3) (.t 2), (some (16, false)), none⟩,
   ⟨(some 18), .mv (.c .junk), (some (16, false)), (some ((.c (.clo f_caesuraref15_Right [] [])), [(.t 17)]))⟩,
   ⟨(some 19), .un .not (.t 18), (some (16, false)), none⟩,
   ⟨(some 20), .pick (.t 16) (.c (.v (.bool true))) (.t 19), none, none⟩])
  (.cond (.t 20) (.seq (.reg none [
    ⟨(some 4), .mv (.c (.v (.bool true))), none, none⟩])
   .ret) .skip))
  (.seq (.reg none [
   ⟨(some 22), .load (some 3) (.t 2), none, none⟩,
   ⟨(some 23), .mv (.c .junk), none, (some ((.c (.clo f_path_First [] [])), [(.t 22)]))⟩,
   ⟨(some 21), .mv (.t 23), none, none⟩,
   ⟨(some 24), .ext 0 (.t 21), none, none⟩,
   ⟨(some 25), .ext 1 (.t 21), none, none⟩,
   ⟨(some 5), .mv (.t 24), none, none⟩,
   ⟨(some 6), .mv (.t 25), none, none⟩])
  (.seq (.seq (.reg none [
   ⟨(some 26), .mv (.t 6), none, none⟩,
   ⟨(some 27), .un .not (.t 26), none, none⟩])
  (.cond (.t 27) (.seq (.reg none [
    ⟨(some 28), .mv (.t 5), none, none⟩,
    ⟨(some 29), .len (.t 28), none, none⟩,
    ⟨(some 30), .bin .eql (.t 29) (.c (.v (.int .i64 0))), none, none⟩,
    ⟨(some 31), .mv (.t 30), none, none⟩,
    ⟨(some 32), .load (some 3) (.t 2), (some (31, true)), none⟩,
    ⟨(some 33), .mv (.t 1), (some (31, true)), none⟩,
    ⟨(some 34), .mv (.c .junk), (some (31, true)), (some ((.c (.clo f_caesuraref15_Accepts [] [])), [(.t 32), (.t 33)]))⟩,
    ⟨(some 35), .un .not (.t 34), (some (31, true)), none⟩,
    ⟨(some 36), .pick (.t 31) (.t 35) (.c (.v (.bool false))), none, none⟩,
    ⟨(some 4), .mv (.t 36), none, none⟩])
   .ret) .skip))
  (.seq (.reg none [
   ⟨(some 37), .load (some 3) (.t 2), none, none⟩,
   ⟨(some 38), .mv (.t 5), none, none⟩,
   ⟨(some 39), .mv (.c .junk), none, (some ((.c (.clo f_caesuraref15_Accepts [] [])), [(.t 37), (.t 38)]))⟩,
   ⟨(some 40), .mv (.t 39), none, none⟩,
   ⟨(some 41), .mv (.t 5), (some (40, true)), none⟩,
   ⟨(some 42), .len (.t 41), (some (40, true)), none⟩,
   ⟨(some 43), .fieldA 1 (.t 2), (some (40, true)), none⟩,
   ⟨(some 44), .load none (.t 43), (some (40, true)), none⟩,
   ⟨(some 45), .len (.t 44), (some (40, true)), none⟩,
   ⟨(some 46), .bin .lss (.t 42) (.t 45), (some (40, true)), none⟩,
   ⟨(some 47), .pick (.t 40) (.t 46) (.c (.v (.bool false))), none, none⟩,
   ⟨(some 48), .mv (.t 47), none, none⟩,
   ⟨(some 49), .load (some 3) (.t 2), (some (48, true)), none⟩,
   ⟨(some 50), .mv (.t 1), (some (48, true)), none⟩,
   ⟨(some 51), .mv (.c .junk), (some (48, true)), (some ((.c (.clo f_caesuraref15_Accepts [] [])), [(.t 49), (.t 50)]))⟩,
   ⟨(some 52), .un .not (.t 51), (some (48, true)), none⟩,
   ⟨(some 53), .mv (.t 52), (some (48, true)), none⟩,
   ⟨(some 54), .mv (.t 1), (some (53, false)), none⟩,
   ⟨(some 55), .mv (.t 5), (some (53, false)), none⟩,
   ⟨(some 56), .mv (.c .junk), (some (53, false)), (some ((.c (.clo f_caesuraref18_Before [] [])), [(.t 54), (.t 55)]))⟩,
   ⟨(some 57), .un .not (.t 56), (some (53, false)), none⟩,
   ⟨(some 58), .pick (.t 53) (.c (.v (.bool true))) (.t 57), (some (48, true)), none⟩,
   ⟨(some 59), .pick (.t 48) (.t 58) (.c (.v (.bool false))), none, none⟩,
   ⟨(some 4), .mv (.t 59), none, none⟩])
  .ret))))))

/-! ### the first list -/
theorem firstFrom_length (next : List (List Int)) (far : List Int) : ∀ (m a : Nat), (firstFrom next far m a).length = m
  | 0, _ => rfl
  | m + 1, a => by simp [firstFrom, firstFrom_length next far m]
structure NearAt (d : Det) (far : List Int) (a m : Nat) where
  j : Nat
  hj : j < d.signs
  idx : idxF (nearP far a) (d.next.getD a []) = (j : Int)
  to : stepD d a j < d.next.length
  rdt : rd far (stepD d a j) = (m : Int)
  fst : ∀ i : Nat, i < j → nearP far a ((d.next.getD a []).getD i 0) = false
  eq : (d.next.getD a []).getD j 0 = (stepD d a j : Int)
theorem near_at {d : Det} (R : RightD d) {far : List Int} (fo : FarOk ⟨d.next, d.fin⟩ far) {a m : Nat} (ha : a < d.next.length) (hm : rd far a = ((m + 1 : Nat) : Int)) : Nonempty (NearAt d far a m) := by
  obtain ⟨t, ht1, ht2, ht3⟩ := fo.pre a ha (by rw [hm]; omega)
  obtain ⟨row', hr1, hr2⟩ := ht2
  have hgn : d.next[a]? = some d.next[a] := List.getElem?_eq_getElem ha
  have hrr : row' = d.next[a] := by
    have : d.next[a]? = some row' := hr1
    rw [hgn] at this; exact (Option.some.inj this).symm
  subst hrr
  obtain ⟨j, hj, hj1, hj2, hj3⟩ := idxF_spec (p := nearP far a) ⟨(t : Int), hr2, by unfold nearP; simp [ht3]⟩
  have hrow := R.row a ha
  have hg : d.next.getD a [] = d.next[a] := by simp [List.getD_eq_getElem?_getD, hgn]
  have hjs : (j : Int) < d.signs := by omega
  obtain ⟨q1, q2, q3⟩ := step_at R ha (s := (j : Int)) (by omega) hjs
  simp only [Int.toNat_natCast] at q1 q2
  refine ⟨⟨j, hjs, by rw [hg]; exact hj1, q3, ?_, fun i hi => ?_, ?_⟩⟩
  · have := hj2
    unfold nearP at this
    rw [beq_iff_eq, hm] at this
    have e : (d.next[a][j]).toNat = stepD d a (j : Int) := by rw [q2]; simp
    rw [e] at this; rw [this]; omega
  · rw [hg]
    have : i < d.next[a].length := by omega
    simp only [List.getD_eq_getElem?_getD, List.getElem?_eq_getElem this, Option.getD_some]
    exact hj3 i hi
  · rw [hg, ← q2]
    simp [List.getD_eq_getElem?_getD, List.getElem?_eq_getElem hj]
theorem firstFrom_acc {d : Det} (R : RightD d) {far : List Int} (fo : FarOk ⟨d.next, d.fin⟩ far) : ∀ (m a : Nat), a < d.next.length → rd far a = (m : Int) → ∃ s, runFrom d a (firstFrom d.next far m a) = some s ∧ d.fin.getD s false = true
  | 0, a, ha, hm => ⟨a, rfl, (fo.zero a ha).mp (by simpa using hm)⟩
  | m + 1, a, ha, hm => by
    obtain ⟨w⟩ := near_at R fo ha hm
    obtain ⟨s, h1, h2⟩ := firstFrom_acc R fo m (stepD d a w.j) w.to w.rdt
    refine ⟨s, ?_, h2⟩
    rw [firstFrom, w.idx, runFrom, if_pos ⟨by omega, w.hj⟩]
    have : ((d.next.getD a []).getD ((w.j : Int)).toNat 0).toNat = stepD d a w.j := by
      rw [Int.toNat_natCast, w.eq, Int.toNat_natCast]
    rw [this]; exact h1
theorem far_le {d : Det} (R : RightD d) {far : List Int} (fo : FarOk ⟨d.next, d.fin⟩ far) : ∀ (l : List Int) (a s : Nat), a < d.next.length → runFrom d a l = some s → d.fin.getD s false = true → 0 ≤ rd far a ∧ rd far a ≤ l.length
  | [], a, s, ha, h, he => by
    simp only [runFrom, Option.some.injEq] at h
    subst h
    have := (fo.zero a ha).mpr he
    simp [this]
  | x :: l, a, s, ha, h, he => by
    simp only [runFrom] at h
    split at h
    · rename_i hx
      obtain ⟨q1, q2, q3⟩ := step_at R ha hx.1 hx.2
      obtain ⟨h1, h2⟩ := far_le R fo l _ s q3 h he
      have := fo.suc a (stepD d a x) ha q3 ⟨d.next[a], List.getElem?_eq_getElem ha, by rw [← q2]; exact List.getElem_mem q1⟩ h1
      simp; omega
    · cases h
theorem cmpI_neg {x y : Int} (h : cmpI x y < 0) : x < y := by unfold cmpI at h; split at h <;> (try split at h) <;> omega
theorem first_least {d : Det} (R : RightD d) {far : List Int} (fo : FarOk ⟨d.next, d.fin⟩ far) : ∀ (l : List Int) (a s : Nat), a < d.next.length → runFrom d a l = some s → d.fin.getD s false = true → rd far a = (l.length : Int) →
    0 ≤ cmpL l (firstFrom d.next far l.length a)
  | [], a, s, ha, h, he, hm => by simp [firstFrom, cmpL]
  | x :: l, a, s, ha, h, he, hm => by
    simp only [runFrom] at h
    split at h
    · rename_i hx
      obtain ⟨q1, q2, q3⟩ := step_at R ha hx.1 hx.2
      obtain ⟨h1, h2⟩ := far_le R fo l _ s q3 h he
      have hs := fo.suc a (stepD d a x) ha q3 ⟨d.next[a], List.getElem?_eq_getElem ha, by rw [← q2]; exact List.getElem_mem q1⟩ h1
      simp only [List.length_cons] at hm
      have hrt : rd far (stepD d a x) = (l.length : Int) := by omega
      obtain ⟨w⟩ := near_at R fo ha hm
      rw [List.length_cons, firstFrom, w.idx]
      have hw : ((d.next.getD a []).getD ((w.j : Int)).toNat 0).toNat = stepD d a w.j := by
        rw [Int.toNat_natCast, w.eq, Int.toNat_natCast]
      rw [hw]
      simp only [cmpL]
      split
      · rename_i hne
        by_cases hlt : cmpI x w.j < 0
        · exfalso
          have hxj := cmpI_neg hlt
          have hf := w.fst x.toNat (by omega)
          have hg : (d.next.getD a []).getD x.toNat 0 = (stepD d a x : Int) := by
            simp only [List.getD_eq_getElem?_getD, List.getElem?_eq_getElem ha, Option.getD_some, List.getElem?_eq_getElem q1]
            exact q2
          rw [hg] at hf
          unfold nearP at hf
          simp only [Int.toNat_natCast, beq_eq_false_iff_ne] at hf
          omega
        · omega
      · rename_i hne
        have hxe : x = (w.j : Int) := cmpI_zero.mp (Decidable.not_not.mp hne)
        subst hxe
        exact first_least R fo l _ s q3 h he hrt
    · cases h
theorem accD_iff {d : Det} (R : RightD d) (l : List Int) : accD d l = true ↔ ∃ s, runFrom d 0 l = some s ∧ d.fin.getD s false = true := by
  have hr : rightD d = true := (right_iff d).mpr R
  simp only [accD, runD, if_pos hr]
  cases runFrom d 0 l with
  | none => simp
  | some s => simp
theorem first_law {d : Det} (R : RightD d) (other : List Int) :
    (firstOk d = true → accD d (firstS d) = true ∧ ((firstS d).length : Int) = rd (farD d) 0 ∧ (firstS d).length < d.next.length ∧ (accD d other = true → beforeS other (firstS d) = false)) ∧ (firstOk d = false → firstS d = [] ∧ accD d other = false) := by
  have hfd : farD d = farS ⟨d.next, d.fin⟩ := by unfold farD; rw [if_pos ((right_iff d).mpr R)]
  have fo := farS_ok ⟨d.next, d.fin⟩
  rw [← hfd] at fo
  have h0 : 0 < d.next.length := by have := R.n1; omega
  constructor
  · intro hok
    have hok0 : 0 ≤ rd (farD d) 0 := by unfold firstOk at hok; simpa using hok
    have hS : firstS d = firstFrom d.next (farD d) (rd (farD d) 0).toNat 0 := by unfold firstS; rw [if_pos hok]; rfl
    have hrd : rd (farD d) 0 = ((rd (farD d) 0).toNat : Int) := by omega
    have hlen : (firstS d).length = (rd (farD d) 0).toNat := by rw [hS, firstFrom_length]
    have hlt := fo.lt 0 h0
    have hn : (Gr.mk d.next d.fin).n = d.next.length := rfl
    refine ⟨?_, by omega, by omega, fun hacc => ?_⟩
    · rw [accD_iff R, hS]
      exact firstFrom_acc R fo _ 0 h0 hrd
    · obtain ⟨s, h1, h2⟩ := (accD_iff R other).mp hacc
      obtain ⟨_, h3⟩ := far_le R fo other 0 s h0 h1 h2
      rw [beforeS_eq]
      simp only [decide_eq_false_iff_not, Int.not_lt]
      rw [ordL_def]
      split
      · rename_i hne
        unfold cmpI
        rw [hlen]
        split
        · omega
        · split <;> omega
      · rename_i hne
        have he := cmpI_zero.mp (Decidable.not_not.mp hne)
        have he2 : other.length = (rd (farD d) 0).toNat := by omega
        rw [hS, ← he2]
        exact first_least R fo other 0 s h0 h1 h2 (by omega)
  · intro hok
    refine ⟨by unfold firstS; rw [hok]; rfl, ?_⟩
    cases hacc : accD d other with
    | false => rfl
    | true =>
      obtain ⟨s, h1, h2⟩ := (accD_iff R other).mp hacc
      obtain ⟨h3, _⟩ := far_le R fo other 0 s h0 h1 h2
      unfold firstOk at hok
      simp at hok; omega
theorem closed_LB (l : List Int) (b : Bool) : Closed (.tup [encIs l, encB b]) := .tup _ (by
  intro y hy
  simp only [List.mem_cons, List.not_mem_nil, or_false] at hy
  rcases hy with rfl | rfl
  · exact closed_Is _
  · exact closed_B _)
theorem caesuralaw18_PathFirst_body {P : Program} {fl fg fr f1 fa fb : FuncId} (d : Det) (other : List Int) (hl : PureC P fl [] (encB true)) (gb : Bool) (hg : PureC P fg [encDet d, encI 600] (encB gb)) (hr : PureC P fr [encDet d] (encB (rightD d)))
    (h1 : PureC P f1 [encDet d] (.tup [encIs (firstS d), encB (firstOk d)])) (ha : ∀ l, Len l → PureC P fa [encDet d, encIs l] (encB (accD d l))) (hb : ∀ a b, Len a → Len b → PureC P fb [encIs a, encIs b] (encB (beforeS a b))) :
    AW P (c_caesuralaw18_PathFirst fl fg fr f1 fa fb) (RetK [4] (FzK (encB true))) (argF [encDet d, encIs other]) S0 := by
  simp [AW_seq, AW_reg, AW_regD, AW_block, AW_cond, AW_skip, AW_exit, AW_ret, AW_scp, condR_true, condR_false, AThen_normal, AThen_ret, AThen_exit, ABlock_normal, ABlock_ret, ABlock_exit, AScope_normal, AScope_ret, AScope_exit, RetK_ret, RetK_normal, retAV_one, retAV_two, retAV_three, retAV_nil, RG_nil, RG_op, RG_guard, gdR_tt, gdR_ff, gdR_tf, gdR_ft, gdR_un, RG_call, callQ_clo, contK_ap, opR_some, RD_nil, RD_op0, RD_op1, opD0_some, opD1_some, RD_call, callQD_clo, RD_guard, gdD_tt, gdD_ff, gdD_tf, gdD_ft, gdD_un, psh_nil, psh_cons, Apt_nil, Apt_nilT, Apt_true, Apt_false, Dis_def, runT_val, runT_rd, runT_wr, runT_new, runT_mv, ex, put_some, put_none, ev_t, ev_c, argF_zero, argF_succ, set_g, set_n, cells_v, cells_sl, cells_agg, cells_own, cells_ptr, cells_clo, cells_eptr, cells_mp, putc, exBslice, lfill, exField, exIdxV, exIdxP, exBox, exAlloc, exLoad, exStore, exFieldA, exIdxA, exLen, exPick, exUn, exBeq, exMM, exSeq, seqGo, exExt, binV, intOp, subc, AV.solid, S0, encI, encB, c_caesuralaw18_PathFirst, encDet]
  refine CallR.pure hl cl_nil (closed_B _) ?_
  simp [AW_seq, AW_reg, AW_regD, AW_block, AW_cond, AW_skip, AW_exit, AW_ret, AW_scp, condR_true, condR_false, AThen_normal, AThen_ret, AThen_exit, ABlock_normal, ABlock_ret, ABlock_exit, AScope_normal, AScope_ret, AScope_exit, RetK_ret, RetK_normal, retAV_one, retAV_two, retAV_three, retAV_nil, RG_nil, RG_op, RG_guard, gdR_tt, gdR_ff, gdR_tf, gdR_ft, gdR_un, RG_call, callQ_clo, contK_ap, opR_some, RD_nil, RD_op0, RD_op1, opD0_some, opD1_some, RD_call, callQD_clo, RD_guard, gdD_tt, gdD_ff, gdD_tf, gdD_ft, gdD_un, psh_nil, psh_cons, Apt_nil, Apt_nilT, Apt_true, Apt_false, Dis_def, runT_val, runT_rd, runT_wr, runT_new, runT_mv, ex, put_some, put_none, ev_t, ev_c, argF_zero, argF_succ, set_g, set_n, cells_v, cells_sl, cells_agg, cells_own, cells_ptr, cells_clo, cells_eptr, cells_mp, putc, exBslice, lfill, exField, exIdxV, exIdxP, exBox, exAlloc, exLoad, exStore, exFieldA, exIdxA, exLen, exPick, exUn, exBeq, exMM, exSeq, seqGo, exExt, binV, intOp, subc, AV.solid, S0, encI, encB]
  refine CallR.pure hg (cl_cons (closed_Det d) (cl_cons (closed_I _) cl_nil)) (closed_B _) ?_
  cases gb with
  | true =>
    simp [AW_seq, AW_reg, AW_regD, AW_block, AW_cond, AW_skip, AW_exit, AW_ret, AW_scp, condR_true, condR_false, AThen_normal, AThen_ret, AThen_exit, ABlock_normal, ABlock_ret, ABlock_exit, AScope_normal, AScope_ret, AScope_exit, RetK_ret, RetK_normal, retAV_one, retAV_two, retAV_three, retAV_nil, RG_nil, RG_op, RG_guard, gdR_tt, gdR_ff, gdR_tf, gdR_ft, gdR_un, RG_call, callQ_clo, contK_ap, opR_some, RD_nil, RD_op0, RD_op1, opD0_some, opD1_some, RD_call, callQD_clo, RD_guard, gdD_tt, gdD_ff, gdD_tf, gdD_ft, gdD_un, psh_nil, psh_cons, Apt_nil, Apt_nilT, Apt_true, Apt_false, Dis_def, runT_val, runT_rd, runT_wr, runT_new, runT_mv, ex, put_some, put_none, ev_t, ev_c, argF_zero, argF_succ, set_g, set_n, cells_v, cells_sl, cells_agg, cells_own, cells_ptr, cells_clo, cells_eptr, cells_mp, putc, exBslice, lfill, exField, exIdxV, exIdxP, exBox, exAlloc, exLoad, exStore, exFieldA, exIdxA, exLen, exPick, exUn, exBeq, exMM, exSeq, seqGo, exExt, binV, intOp, subc, AV.solid, S0, encI, encB]
    exact FzK_B true _
  | false =>
    by_cases ho : 100 < other.length
    · have ho' : (100 : Int) < other.length := by omega
      simp [AW_seq, AW_reg, AW_regD, AW_block, AW_cond, AW_skip, AW_exit, AW_ret, AW_scp, condR_true, condR_false, AThen_normal, AThen_ret, AThen_exit, ABlock_normal, ABlock_ret, ABlock_exit, AScope_normal, AScope_ret, AScope_exit, RetK_ret, RetK_normal, retAV_one, retAV_two, retAV_three, retAV_nil, RG_nil, RG_op, RG_guard, gdR_tt, gdR_ff, gdR_tf, gdR_ft, gdR_un, RG_call, callQ_clo, contK_ap, opR_some, RD_nil, RD_op0, RD_op1, opD0_some, opD1_some, RD_call, callQD_clo, RD_guard, gdD_tt, gdD_ff, gdD_tf, gdD_ft, gdD_un, psh_nil, psh_cons, Apt_nil, Apt_nilT, Apt_true, Apt_false, Dis_def, runT_val, runT_rd, runT_wr, runT_new, runT_mv, ex, put_some, put_none, ev_t, ev_c, argF_zero, argF_succ, set_g, set_n, cells_v, cells_sl, cells_agg, cells_own, cells_ptr, cells_clo, cells_eptr, cells_mp, putc, exBslice, lfill, exField, exIdxV, exIdxP, exBox, exAlloc, exLoad, exStore, exFieldA, exIdxA, exLen, exPick, exUn, exBeq, exMM, exSeq, seqGo, exExt, binV, intOp, subc, AV.solid, S0, encI, encB, encIs, ho, ho']
      exact FzK_B true _
    · have ho' : ¬ (100 : Int) < other.length := by omega
      simp [AW_seq, AW_reg, AW_regD, AW_block, AW_cond, AW_skip, AW_exit, AW_ret, AW_scp, condR_true, condR_false, AThen_normal, AThen_ret, AThen_exit, ABlock_normal, ABlock_ret, ABlock_exit, AScope_normal, AScope_ret, AScope_exit, RetK_ret, RetK_normal, retAV_one, retAV_two, retAV_three, retAV_nil, RG_nil, RG_op, RG_guard, gdR_tt, gdR_ff, gdR_tf, gdR_ft, gdR_un, RG_call, callQ_clo, contK_ap, opR_some, RD_nil, RD_op0, RD_op1, opD0_some, opD1_some, RD_call, callQD_clo, RD_guard, gdD_tt, gdD_ff, gdD_tf, gdD_ft, gdD_un, psh_nil, psh_cons, Apt_nil, Apt_nilT, Apt_true, Apt_false, Dis_def, runT_val, runT_rd, runT_wr, runT_new, runT_mv, ex, put_some, put_none, ev_t, ev_c, argF_zero, argF_succ, set_g, set_n, cells_v, cells_sl, cells_agg, cells_own, cells_ptr, cells_clo, cells_eptr, cells_mp, putc, exBslice, lfill, exField, exIdxV, exIdxP, exBox, exAlloc, exLoad, exStore, exFieldA, exIdxA, exLen, exPick, exUn, exBeq, exMM, exSeq, seqGo, exExt, binV, intOp, subc, AV.solid, S0, encI, encB, encIs, ho, ho', encDet]
      refine CallR.pure hr (cl_cons (closed_Det d) cl_nil) (closed_B _) ?_
      by_cases hR : rightD d = true
      · have R := (right_iff d).mp hR
        have hlaw := first_law R other
        have hlo : Len other := by unfold Len; omega
        have hn2 := R.n2
        simp [AW_seq, AW_reg, AW_regD, AW_block, AW_cond, AW_skip, AW_exit, AW_ret, AW_scp, condR_true, condR_false, AThen_normal, AThen_ret, AThen_exit, ABlock_normal, ABlock_ret, ABlock_exit, AScope_normal, AScope_ret, AScope_exit, RetK_ret, RetK_normal, retAV_one, retAV_two, retAV_three, retAV_nil, RG_nil, RG_op, RG_guard, gdR_tt, gdR_ff, gdR_tf, gdR_ft, gdR_un, RG_call, callQ_clo, contK_ap, opR_some, RD_nil, RD_op0, RD_op1, opD0_some, opD1_some, RD_call, callQD_clo, RD_guard, gdD_tt, gdD_ff, gdD_tf, gdD_ft, gdD_un, psh_nil, psh_cons, Apt_nil, Apt_nilT, Apt_true, Apt_false, Dis_def, runT_val, runT_rd, runT_wr, runT_new, runT_mv, ex, put_some, put_none, ev_t, ev_c, argF_zero, argF_succ, set_g, set_n, cells_v, cells_sl, cells_agg, cells_own, cells_ptr, cells_clo, cells_eptr, cells_mp, putc, exBslice, lfill, exField, exIdxV, exIdxP, exBox, exAlloc, exLoad, exStore, exFieldA, exIdxA, exLen, exPick, exUn, exBeq, exMM, exSeq, seqGo, exExt, binV, intOp, subc, AV.solid, S0, encI, encB, hR, encDet]
        refine CallR.pure h1 (cl_cons (closed_Det d) cl_nil) (closed_LB _ _) ?_
        cases hok : firstOk d with
        | false =>
          obtain ⟨q1, q2⟩ := hlaw.2 hok
          have hq : PureC P fa [encDet d, encIs other] (encB false) := by have := ha other hlo; rw [q2] at this; exact this
          simp [AW_seq, AW_reg, AW_regD, AW_block, AW_cond, AW_skip, AW_exit, AW_ret, AW_scp, condR_true, condR_false, AThen_normal, AThen_ret, AThen_exit, ABlock_normal, ABlock_ret, ABlock_exit, AScope_normal, AScope_ret, AScope_exit, RetK_ret, RetK_normal, retAV_one, retAV_two, retAV_three, retAV_nil, RG_nil, RG_op, RG_guard, gdR_tt, gdR_ff, gdR_tf, gdR_ft, gdR_un, RG_call, callQ_clo, contK_ap, opR_some, RD_nil, RD_op0, RD_op1, opD0_some, opD1_some, RD_call, callQD_clo, RD_guard, gdD_tt, gdD_ff, gdD_tf, gdD_ft, gdD_un, psh_nil, psh_cons, Apt_nil, Apt_nilT, Apt_true, Apt_false, Dis_def, runT_val, runT_rd, runT_wr, runT_new, runT_mv, ex, put_some, put_none, ev_t, ev_c, argF_zero, argF_succ, set_g, set_n, cells_v, cells_sl, cells_agg, cells_own, cells_ptr, cells_clo, cells_eptr, cells_mp, putc, exBslice, lfill, exField, exIdxV, exIdxP, exBox, exAlloc, exLoad, exStore, exFieldA, exIdxA, exLen, exPick, exUn, exBeq, exMM, exSeq, seqGo, exExt, binV, intOp, subc, AV.solid, S0, encI, encB, q1, encIs, encDet]
          refine CallR.pure hq (cl_cons (closed_Det d) (cl_cons (closed_Is _) cl_nil)) (closed_B _) ?_
          simp [AW_seq, AW_reg, AW_regD, AW_block, AW_cond, AW_skip, AW_exit, AW_ret, AW_scp, condR_true, condR_false, AThen_normal, AThen_ret, AThen_exit, ABlock_normal, ABlock_ret, ABlock_exit, AScope_normal, AScope_ret, AScope_exit, RetK_ret, RetK_normal, retAV_one, retAV_two, retAV_three, retAV_nil, RG_nil, RG_op, RG_guard, gdR_tt, gdR_ff, gdR_tf, gdR_ft, gdR_un, RG_call, callQ_clo, contK_ap, opR_some, RD_nil, RD_op0, RD_op1, opD0_some, opD1_some, RD_call, callQD_clo, RD_guard, gdD_tt, gdD_ff, gdD_tf, gdD_ft, gdD_un, psh_nil, psh_cons, Apt_nil, Apt_nilT, Apt_true, Apt_false, Dis_def, runT_val, runT_rd, runT_wr, runT_new, runT_mv, ex, put_some, put_none, ev_t, ev_c, argF_zero, argF_succ, set_g, set_n, cells_v, cells_sl, cells_agg, cells_own, cells_ptr, cells_clo, cells_eptr, cells_mp, putc, exBslice, lfill, exField, exIdxV, exIdxP, exBox, exAlloc, exLoad, exStore, exFieldA, exIdxA, exLen, exPick, exUn, exBeq, exMM, exSeq, seqGo, exExt, binV, intOp, subc, AV.solid, S0, encI, encB]
          exact FzK_B true _
        | true =>
          obtain ⟨q1, q2, q3, q4⟩ := hlaw.1 hok
          have hls : Len (firstS d) := by unfold Len; omega
          have hq : PureC P fa [encDet d, encIs (firstS d)] (encB true) := by have := ha _ hls; rw [q1] at this; exact this
          have q3' : ((firstS d).length : Int) < d.next.length := by omega
          simp [AW_seq, AW_reg, AW_regD, AW_block, AW_cond, AW_skip, AW_exit, AW_ret, AW_scp, condR_true, condR_false, AThen_normal, AThen_ret, AThen_exit, ABlock_normal, ABlock_ret, ABlock_exit, AScope_normal, AScope_ret, AScope_exit, RetK_ret, RetK_normal, retAV_one, retAV_two, retAV_three, retAV_nil, RG_nil, RG_op, RG_guard, gdR_tt, gdR_ff, gdR_tf, gdR_ft, gdR_un, RG_call, callQ_clo, contK_ap, opR_some, RD_nil, RD_op0, RD_op1, opD0_some, opD1_some, RD_call, callQD_clo, RD_guard, gdD_tt, gdD_ff, gdD_tf, gdD_ft, gdD_un, psh_nil, psh_cons, Apt_nil, Apt_nilT, Apt_true, Apt_false, Dis_def, runT_val, runT_rd, runT_wr, runT_new, runT_mv, ex, put_some, put_none, ev_t, ev_c, argF_zero, argF_succ, set_g, set_n, cells_v, cells_sl, cells_agg, cells_own, cells_ptr, cells_clo, cells_eptr, cells_mp, putc, exBslice, lfill, exField, exIdxV, exIdxP, exBox, exAlloc, exLoad, exStore, exFieldA, exIdxA, exLen, exPick, exUn, exBeq, exMM, exSeq, seqGo, exExt, binV, intOp, subc, AV.solid, S0, encI, encB, encIs, encDet]
          refine CallR.pure hq (cl_cons (closed_Det d) (cl_cons (closed_Is _) cl_nil)) (closed_B _) ?_
          simp [AW_seq, AW_reg, AW_regD, AW_block, AW_cond, AW_skip, AW_exit, AW_ret, AW_scp, condR_true, condR_false, AThen_normal, AThen_ret, AThen_exit, ABlock_normal, ABlock_ret, ABlock_exit, AScope_normal, AScope_ret, AScope_exit, RetK_ret, RetK_normal, retAV_one, retAV_two, retAV_three, retAV_nil, RG_nil, RG_op, RG_guard, gdR_tt, gdR_ff, gdR_tf, gdR_ft, gdR_un, RG_call, callQ_clo, contK_ap, opR_some, RD_nil, RD_op0, RD_op1, opD0_some, opD1_some, RD_call, callQD_clo, RD_guard, gdD_tt, gdD_ff, gdD_tf, gdD_ft, gdD_un, psh_nil, psh_cons, Apt_nil, Apt_nilT, Apt_true, Apt_false, Dis_def, runT_val, runT_rd, runT_wr, runT_new, runT_mv, ex, put_some, put_none, ev_t, ev_c, argF_zero, argF_succ, set_g, set_n, cells_v, cells_sl, cells_agg, cells_own, cells_ptr, cells_clo, cells_eptr, cells_mp, putc, exBslice, lfill, exField, exIdxV, exIdxP, exBox, exAlloc, exLoad, exStore, exFieldA, exIdxA, exLen, exPick, exUn, exBeq, exMM, exSeq, seqGo, exExt, binV, intOp, subc, AV.solid, S0, encI, encB, q3, q3', encIss, encDet, encIs]
          refine CallR.pure (ha other hlo) (cl_cons (closed_Det d) (cl_cons (closed_Is _) cl_nil)) (closed_B _) ?_
          cases hacc : accD d other with
          | false =>
            simp [AW_seq, AW_reg, AW_regD, AW_block, AW_cond, AW_skip, AW_exit, AW_ret, AW_scp, condR_true, condR_false, AThen_normal, AThen_ret, AThen_exit, ABlock_normal, ABlock_ret, ABlock_exit, AScope_normal, AScope_ret, AScope_exit, RetK_ret, RetK_normal, retAV_one, retAV_two, retAV_three, retAV_nil, RG_nil, RG_op, RG_guard, gdR_tt, gdR_ff, gdR_tf, gdR_ft, gdR_un, RG_call, callQ_clo, contK_ap, opR_some, RD_nil, RD_op0, RD_op1, opD0_some, opD1_some, RD_call, callQD_clo, RD_guard, gdD_tt, gdD_ff, gdD_tf, gdD_ft, gdD_un, psh_nil, psh_cons, Apt_nil, Apt_nilT, Apt_true, Apt_false, Dis_def, runT_val, runT_rd, runT_wr, runT_new, runT_mv, ex, put_some, put_none, ev_t, ev_c, argF_zero, argF_succ, set_g, set_n, cells_v, cells_sl, cells_agg, cells_own, cells_ptr, cells_clo, cells_eptr, cells_mp, putc, exBslice, lfill, exField, exIdxV, exIdxP, exBox, exAlloc, exLoad, exStore, exFieldA, exIdxA, exLen, exPick, exUn, exBeq, exMM, exSeq, seqGo, exExt, binV, intOp, subc, AV.solid, S0, encI, encB]
            exact FzK_B true _
          | true =>
            have hq2 : PureC P fb [encIs other, encIs (firstS d)] (encB false) := by have := hb _ _ hlo hls; rw [q4 hacc] at this; exact this
            simp [AW_seq, AW_reg, AW_regD, AW_block, AW_cond, AW_skip, AW_exit, AW_ret, AW_scp, condR_true, condR_false, AThen_normal, AThen_ret, AThen_exit, ABlock_normal, ABlock_ret, ABlock_exit, AScope_normal, AScope_ret, AScope_exit, RetK_ret, RetK_normal, retAV_one, retAV_two, retAV_three, retAV_nil, RG_nil, RG_op, RG_guard, gdR_tt, gdR_ff, gdR_tf, gdR_ft, gdR_un, RG_call, callQ_clo, contK_ap, opR_some, RD_nil, RD_op0, RD_op1, opD0_some, opD1_some, RD_call, callQD_clo, RD_guard, gdD_tt, gdD_ff, gdD_tf, gdD_ft, gdD_un, psh_nil, psh_cons, Apt_nil, Apt_nilT, Apt_true, Apt_false, Dis_def, runT_val, runT_rd, runT_wr, runT_new, runT_mv, ex, put_some, put_none, ev_t, ev_c, argF_zero, argF_succ, set_g, set_n, cells_v, cells_sl, cells_agg, cells_own, cells_ptr, cells_clo, cells_eptr, cells_mp, putc, exBslice, lfill, exField, exIdxV, exIdxP, exBox, exAlloc, exLoad, exStore, exFieldA, exIdxA, exLen, exPick, exUn, exBeq, exMM, exSeq, seqGo, exExt, binV, intOp, subc, AV.solid, S0, encI, encB, encIs]
            refine CallR.pure hq2 (cl_cons (closed_Is _) (cl_cons (closed_Is _) cl_nil)) (closed_B _) ?_
            simp [AW_seq, AW_reg, AW_regD, AW_block, AW_cond, AW_skip, AW_exit, AW_ret, AW_scp, condR_true, condR_false, AThen_normal, AThen_ret, AThen_exit, ABlock_normal, ABlock_ret, ABlock_exit, AScope_normal, AScope_ret, AScope_exit, RetK_ret, RetK_normal, retAV_one, retAV_two, retAV_three, retAV_nil, RG_nil, RG_op, RG_guard, gdR_tt, gdR_ff, gdR_tf, gdR_ft, gdR_un, RG_call, callQ_clo, contK_ap, opR_some, RD_nil, RD_op0, RD_op1, opD0_some, opD1_some, RD_call, callQD_clo, RD_guard, gdD_tt, gdD_ff, gdD_tf, gdD_ft, gdD_un, psh_nil, psh_cons, Apt_nil, Apt_nilT, Apt_true, Apt_false, Dis_def, runT_val, runT_rd, runT_wr, runT_new, runT_mv, ex, put_some, put_none, ev_t, ev_c, argF_zero, argF_succ, set_g, set_n, cells_v, cells_sl, cells_agg, cells_own, cells_ptr, cells_clo, cells_eptr, cells_mp, putc, exBslice, lfill, exField, exIdxV, exIdxP, exBox, exAlloc, exLoad, exStore, exFieldA, exIdxA, exLen, exPick, exUn, exBeq, exMM, exSeq, seqGo, exExt, binV, intOp, subc, AV.solid, S0, encI, encB]
            exact FzK_B true _
      · simp [AW_seq, AW_reg, AW_regD, AW_block, AW_cond, AW_skip, AW_exit, AW_ret, AW_scp, condR_true, condR_false, AThen_normal, AThen_ret, AThen_exit, ABlock_normal, ABlock_ret, ABlock_exit, AScope_normal, AScope_ret, AScope_exit, RetK_ret, RetK_normal, retAV_one, retAV_two, retAV_three, retAV_nil, RG_nil, RG_op, RG_guard, gdR_tt, gdR_ff, gdR_tf, gdR_ft, gdR_un, RG_call, callQ_clo, contK_ap, opR_some, RD_nil, RD_op0, RD_op1, opD0_some, opD1_some, RD_call, callQD_clo, RD_guard, gdD_tt, gdD_ff, gdD_tf, gdD_ft, gdD_un, psh_nil, psh_cons, Apt_nil, Apt_nilT, Apt_true, Apt_false, Dis_def, runT_val, runT_rd, runT_wr, runT_new, runT_mv, ex, put_some, put_none, ev_t, ev_c, argF_zero, argF_succ, set_g, set_n, cells_v, cells_sl, cells_agg, cells_own, cells_ptr, cells_clo, cells_eptr, cells_mp, putc, exBslice, lfill, exField, exIdxV, exIdxP, exBox, exAlloc, exLoad, exStore, exFieldA, exIdxA, exLen, exPick, exUn, exBeq, exMM, exSeq, seqGo, exExt, binV, intOp, subc, AV.solid, S0, encI, encB, hR]
        exact FzK_B true _
end Go.Rf
