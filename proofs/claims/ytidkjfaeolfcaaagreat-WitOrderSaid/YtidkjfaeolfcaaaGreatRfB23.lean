import Derived.Test.YtidkjfaeolfcaaaGreatRfB1
import Derived.Test.YtidkjfaeolfcaaaGreatRfB8
import Derived.Test.YtidkjfaeolfcaaaGreatRfL7
import Derived.Test.YtidkjfaeolfcaaaGreatRfCell
set_option linter.unusedVariables false
set_option linter.unusedSimpArgs false
namespace Go.Rf
def c_wit_compare (f_cmp_Compare_int_ f_slices_Compare_Sint_int_ f_cmp_Or_int_ : FuncId) : AC :=
  (.seq (.reg none [
   ⟨(some 2), .box 2 (.t 0), none, none⟩,
   ⟨(some 3), .box 2 (.t 1), none, none⟩,
   ⟨(some 4), .mv (.c (.v (.int .i64 0))), none, none⟩])
  (.seq (.reg (some []) [
   ⟨(some 5), .fieldA 0 (.t 2), none, none⟩,
   ⟨(some 6), .load none (.t 5), none, none⟩,
   ⟨(some 7), .len (.t 6), none, none⟩,
   ⟨(some 8), .fieldA 0 (.t 3), none, none⟩,
   ⟨(some 9), .load none (.t 8), none, none⟩,
   ⟨(some 10), .len (.t 9), none, none⟩,
   ⟨(some 11), .mv (.c .junk), none, (some ((.c (.clo f_cmp_Compare_int_ [] [])), [(.t 7), (.t 10)]))⟩,
   ⟨(some 12), .fieldA 0 (.t 2), none, none⟩,
   ⟨(some 13), .load none (.t 12), none, none⟩,
   ⟨(some 14), .fieldA 0 (.t 3), none, none⟩,
   ⟨(some 15), .load none (.t 14), none, none⟩,
   ⟨(some 16), .mv (.c .junk), none, (some ((.c (.clo f_slices_Compare_Sint_int_ [] [])), [(.t 13), (.t 15)]))⟩,
   ⟨(some 17), .fieldA 1 (.t 2), none, none⟩,
   ⟨(some 18), .load none (.t 17), none, none⟩,
   ⟨(some 19), .fieldA 1 (.t 3), none, none⟩,
   ⟨(some 20), .load none (.t 19), none, none⟩,
   ⟨(some 21), .mv (.c .junk), none, (some ((.c (.clo f_cmp_Compare_int_ [] [])), [(.t 18), (.t 20)]))⟩,
   ⟨(some 22), .bslice 1 3 (.v (.int .i64 0)) [(0, (.t 11)), (1, (.t 16)), (2, (.t 21))], none, none⟩,
   ⟨(some 23), .mv (.c .junk), none, (some ((.c (.clo f_cmp_Or_int_ [] [])), [(.t 22)]))⟩,
   ⟨(some 4), .mv (.t 23), none, none⟩])
  .ret))
def c_wit_Before (f_wit_compare : FuncId) : AC :=
  (.seq (.reg none [
   ⟨(some 2), .box 2 (.t 0), none, none⟩,
   ⟨(some 3), .box 2 (.t 1), none, none⟩,
   ⟨(some 4), .mv (.c (.v (.bool false))), none, none⟩])
  (.seq (.reg none [
   ⟨(some 5), .load (some 2) (.t 2), none, none⟩,
   ⟨(some 6), .load (some 2) (.t 3), none, none⟩,
   ⟨(some 7), .mv (.c .junk), none, (some ((.c (.clo f_wit_compare [] [])), [(.t 5), (.t 6)]))⟩,
   ⟨(some 8), .bin .lss (.t 7) (.c (.v (.int .i64 0))), none, none⟩,
   ⟨(some 4), .mv (.t 8), none, none⟩])
  .ret))
def c_slices_MinFunc_Sapi_Wit_api_Wit_ : AC :=
  (.seq (.reg none [
   ⟨(some 4), .alloc (.agg [(.sl true []), (.v (.int .i64 0))]) 2, none, none⟩])
  (.seq (.seq (.reg none [
   ⟨(some 7), .mv (.t 0), none, none⟩,
   ⟨(some 8), .len (.t 7), none, none⟩,
   ⟨(some 9), .bin .lss (.t 8) (.c (.v (.int .i64 1))), none, none⟩])
  (.cond (.t 9) .bad .skip))
  (.seq (.reg none [
   ⟨(some 11), .mv (.t 0), none, none⟩,
   ⟨(some 12), .idxA 2 (.t 11) (.c (.v (.int .i64 0))), none, none⟩,
   ⟨(some 13), .load (some 2) (.t 12), none, none⟩,
   ⟨(some 5), .alloc (.agg [(.sl true []), (.v (.int .i64 0))]) 2, none, none⟩,
   ⟨none, .store 2 (.t 5) (.t 13), none, none⟩])
  (.seq (.seq (.reg none [
   ⟨(some 6), .mv (.c (.v (.int .i64 1))), none, none⟩])
  (.block 0 (.loop (.seq (.seq (.reg none [
     ⟨(some 14), .mv (.t 6), none, none⟩,
     ⟨(some 15), .mv (.t 0), none, none⟩,
     ⟨(some 16), .len (.t 15), none, none⟩,
     ⟨(some 17), .bin .lss (.t 14) (.t 16), none, none⟩])
    (.cond (.t 17) .skip (.exit 0)))
    (.seq (.block 1 (.seq (.reg (some []) [
      ⟨(some 20), .mv (.t 1), none, none⟩,
      ⟨(some 21), .mv (.t 0), none, none⟩,
      ⟨(some 22), .mv (.t 6), none, none⟩,
      ⟨(some 23), .idxA 2 (.t 21) (.t 22), none, none⟩,
      ⟨(some 24), .load (some 2) (.t 23), none, none⟩,
      ⟨(some 25), .load (some 2) (.t 5), none, none⟩,
      ⟨(some 26), .mv (.c .junk), none, (some ((.t 20), [(.t 24), (.t 25)]))⟩,
      ⟨(some 27), .bin .lss (.t 26) (.c (.v (.int .i64 0))), none, none⟩])
     (.cond (.t 27) (.reg none [
       ⟨(some 28), .mv (.t 0), none, none⟩,
       ⟨(some 29), .mv (.t 6), none, none⟩,
       ⟨(some 30), .idxA 2 (.t 28) (.t 29), none, none⟩,
       ⟨(some 31), .load (some 2) (.t 30), none, none⟩,
       ⟨none, .store 2 (.t 5) (.t 31), none, none⟩]) .skip)))
    (.reg none [
     ⟨(some 18), .mv (.t 6), none, none⟩,
     ⟨(some 19), .bin .add (.t 18) (.c (.v (.int .i64 1))), none, none⟩,
     ⟨(some 6), .mv (.t 19), none, none⟩]))))))
  (.seq (.reg none [
   ⟨(some 32), .load (some 2) (.t 5), none, none⟩,
   ⟨none, .store 2 (.t 4) (.t 32), none, none⟩])
  .ret)))))
def c_wit_Least (f_slices_MinFunc_Sapi_Wit_api_Wit_ f_wit_compare : FuncId) : AC :=
  (.seq (.reg none [
   ⟨(some 2), .alloc (.agg [(.sl true []), (.v (.int .i64 0))]) 2, none, none⟩,
   ⟨(some 3), .mv (.c (.v (.bool false))), none, none⟩])
  (.seq (.seq (.reg none [
   ⟨(some 4), .mv (.t 0), none, none⟩,
   ⟨(some 5), .len (.t 4), none, none⟩,
   ⟨(some 6), .bin .eql (.t 5) (.c (.v (.int .i64 0))), none, none⟩])
  (.cond (.t 6) (.seq (.reg none [
    ⟨(some 7), .build (.agg [(.sl true []), (.v (.int .i64 0))]) [] [], none, none⟩,
    ⟨none, .store 2 (.t 2) (.t 7), none, none⟩,
    ⟨(some 3), .mv (.c (.v (.bool false))), none, none⟩])
   .ret) .skip))
  (.seq (.reg none [
   ⟨(some 8), .mv (.t 0), none, none⟩,
   ⟨(some 9), .mv (.c .junk), none, (some ((.c (.clo f_slices_MinFunc_Sapi_Wit_api_Wit_ [] [])), [(.t 8), (.c (.clo f_wit_compare [] []))]))⟩,
   ⟨none, .store 2 (.t 2) (.t 9), none, none⟩,
   ⟨(some 3), .mv (.c (.v (.bool true))), none, none⟩])
  .ret)))
def c_wo_tail (f_wit_Before : FuncId) : AC :=
  (.seq (.reg none [
   ⟨(some 48), .mv (.t 9), none, none⟩,
   ⟨(some 49), .mv (.t 48), none, none⟩,
   ⟨(some 50), .load (some 2) (.t 8), (some (49, true)), none⟩,
   ⟨(some 51), .load (some 2) (.t 8), (some (49, true)), none⟩,
   ⟨(some 52), .mv (.c .junk), (some (49, true)), (some ((.c (.clo f_wit_Before [] [])), [(.t 50), (.t 51)]))⟩,
   ⟨(some 53), .un .not (.t 52), (some (49, true)), none⟩,
   ⟨(some 54), .pick (.t 49) (.t 53) (.c (.v (.bool false))), none, none⟩,
   ⟨(some 55), .mv (.t 54), none, none⟩,
   ⟨(some 56), .load (some 2) (.t 3), (some (55, true)), none⟩,
   ⟨(some 57), .load (some 2) (.t 8), (some (55, true)), none⟩,
   ⟨(some 58), .mv (.c .junk), (some (55, true)), (some ((.c (.clo f_wit_Before [] [])), [(.t 56), (.t 57)]))⟩,
   ⟨(some 59), .un .not (.t 58), (some (55, true)), none⟩,
   ⟨(some 60), .pick (.t 55) (.t 59) (.c (.v (.bool false))), none, none⟩,
   ⟨(some 61), .mv (.t 60), none, none⟩,
   ⟨(some 62), .load (some 2) (.t 4), (some (61, true)), none⟩,
   ⟨(some 63), .load (some 2) (.t 8), (some (61, true)), none⟩,
   ⟨(some 64), .mv (.c .junk), (some (61, true)), (some ((.c (.clo f_wit_Before [] [])), [(.t 62), (.t 63)]))⟩,
   ⟨(some 65), .un .not (.t 64), (some (61, true)), none⟩,
   ⟨(some 66), .pick (.t 61) (.t 65) (.c (.v (.bool false))), none, none⟩,
   ⟨(some 67), .mv (.t 66), none, none⟩,
   ⟨(some 68), .load (some 2) (.t 5), (some (67, true)), none⟩,
   ⟨(some 69), .load (some 2) (.t 8), (some (67, true)), none⟩,
   ⟨(some 70), .mv (.c .junk), (some (67, true)), (some ((.c (.clo f_wit_Before [] [])), [(.t 68), (.t 69)]))⟩,
   ⟨(some 71), .un .not (.t 70), (some (67, true)), none⟩,
   ⟨(some 72), .pick (.t 67) (.t 71) (.c (.v (.bool false))), none, none⟩,
   ⟨(some 73), .mv (.t 72), none, none⟩,
   ⟨(some 74), .mv (.t 7), (some (73, true)), none⟩,
   ⟨(some 75), .load (some 2) (.t 3), (some (73, true)), none⟩,
   ⟨(some 76), .load (some 2) (.t 4), (some (73, true)), none⟩,
   ⟨(some 77), .mv (.c .junk), (some (73, true)), (some ((.c (.clo f_wit_Before [] [])), [(.t 75), (.t 76)]))⟩,
   ⟨(some 78), .mv (.t 77), (some (73, true)), none⟩,
   ⟨(some 79), .load (some 2) (.t 4), (some (78, false)), none⟩,
   ⟨(some 80), .load (some 2) (.t 3), (some (78, false)), none⟩,
   ⟨(some 81), .mv (.c .junk), (some (78, false)), (some ((.c (.clo f_wit_Before [] [])), [(.t 79), (.t 80)]))⟩,
   ⟨(some 82), .pick (.t 78) (.c (.v (.bool true))) (.t 81), (some (73, true)), none⟩,
   ⟨(some 83), .beq true (.t 74) (.t 82), (some (73, true)), none⟩,
   ⟨(some 84), .pick (.t 73) (.t 83) (.c (.v (.bool false))), none, none⟩,
   ⟨(some 85), .mv (.t 84), none, none⟩,
   ⟨(some 86), .load (some 2) (.t 3), (some (85, true)), none⟩,
   ⟨(some 87), .load (some 2) (.t 4), (some (85, true)), none⟩,
   ⟨(some 88), .mv (.c .junk), (some (85, true)), (some ((.c (.clo f_wit_Before [] [])), [(.t 86), (.t 87)]))⟩,
   ⟨(some 89), .un .not (.t 88), (some (85, true)), none⟩,
   ⟨(some 90), .mv (.t 89), (some (85, true)), none⟩,
   ⟨(some 91), .load (some 2) (.t 4), (some (90, false)), none⟩,
   ⟨(some 92), .load (some 2) (.t 3), (some (90, false)), none⟩,
   ⟨(some 93), .mv (.c .junk), (some (90, false)), (some ((.c (.clo f_wit_Before [] [])), [(.t 91), (.t 92)]))⟩,
   ⟨(some 94), .un .not (.t 93), (some (90, false)), none⟩,
   ⟨(some 95), .pick (.t 90) (.c (.v (.bool true))) (.t 94), (some (85, true)), none⟩,
   ⟨(some 96), .pick (.t 85) (.t 95) (.c (.v (.bool false))), none, none⟩,
   ⟨(some 97), .mv (.t 96), none, none⟩,
   ⟨(some 98), .load (some 2) (.t 3), (some (97, true)), none⟩,
   ⟨(some 99), .load (some 2) (.t 4), (some (97, true)), none⟩,
   ⟨(some 100), .mv (.c .junk), (some (97, true)), (some ((.c (.clo f_wit_Before [] [])), [(.t 98), (.t 99)]))⟩,
   ⟨(some 101), .un .not (.t 100), (some (97, true)), none⟩,
   ⟨(some 102), .mv (.t 101), (some (97, true)), none⟩,
   ⟨(some 103), .load (some 2) (.t 4), (some (102, false)), none⟩,
   ⟨(some 104), .load (some 2) (.t 5), (some (102, false)), none⟩,
   ⟨(some 105), .mv (.c .junk), (some (102, false)), (some ((.c (.clo f_wit_Before [] [])), [(.t 103), (.t 104)]))⟩,
   ⟨(some 106), .un .not (.t 105), (some (102, false)), none⟩,
   ⟨(some 107), .pick (.t 102) (.c (.v (.bool true))) (.t 106), (some (97, true)), none⟩,
   ⟨(some 108), .mv (.t 107), (some (97, true)), none⟩,
   ⟨(some 109), .load (some 2) (.t 3), (some (108, false)), none⟩,
   ⟨(some 110), .load (some 2) (.t 5), (some (108, false)), none⟩,
   ⟨(some 111), .mv (.c .junk), (some (108, false)), (some ((.c (.clo f_wit_Before [] [])), [(.t 109), (.t 110)]))⟩,
   ⟨(some 112), .pick (.t 108) (.c (.v (.bool true))) (.t 111), (some (97, true)), none⟩,
   ⟨(some 113), .pick (.t 97) (.t 112) (.c (.v (.bool false))), none, none⟩,
   ⟨(some 6), .mv (.t 113), none, none⟩])
  .ret)
def c_caesuralaw23_WitOrder (f_caesuralaw23_alive f_caesuraref01_Ints f_wit_Least f_wit_Before : FuncId) : AC :=
  (.seq (.reg none [
   ⟨(some 3), .box 2 (.t 0), none, none⟩,
   ⟨(some 4), .box 2 (.t 1), none, none⟩,
   ⟨(some 5), .box 2 (.t 2), none, none⟩,
   ⟨(some 6), .mv (.c (.v (.bool false))), none, none⟩])
  (.seq (.seq (.reg none [
   ⟨(some 10), .mv (.c .junk), none, (some ((.c (.clo f_caesuralaw23_alive [] [])), []))⟩,
   ⟨(some 11), .un .not (.t 10), none, none⟩])
  (.cond (.t 11) (.seq (.reg none [
    ⟨(some 6), .mv (.c (.v (.bool false))), none, none⟩])
   .ret) .skip))
  (.seq (.seq (.reg none [
   ⟨(some 12), .fieldA 0 (.t 3), none, none⟩,
   ⟨(some 13), .load none (.t 12), none, none⟩,
   ⟨(some 14), .len (.t 13), none, none⟩,
   ⟨(some 15), .bin .gtr (.t 14) (.c (.v (.int .i64 300))), none, none⟩,
   ⟨(some 16), .mv (.t 15), none, none⟩,
   ⟨(some 17), .fieldA 0 (.t 4), (some (16, false)), none⟩,
   ⟨(some 18), .load none (.t 17), (some (16, false)), none⟩,
   ⟨(some 19), .len (.t 18), (some (16, false)), none⟩,
   ⟨(some 20), .bin .gtr (.t 19) (.c (.v (.int .i64 300))), (some (16, false)), none⟩,
   ⟨(some 21), .pick (.t 16) (.c (.v (.bool true))) (.t 20), none, none⟩,
   ⟨(some 22), .mv (.t 21), none, none⟩,
   ⟨(some 23), .fieldA 0 (.t 5), (some (22, false)), none⟩,
   ⟨(some 24), .load none (.t 23), (some (22, false)), none⟩,
   ⟨(some 25), .len (.t 24), (some (22, false)), none⟩,
   ⟨(some 26), .bin .gtr (.t 25) (.c (.v (.int .i64 300))), (some (22, false)), none⟩,
   ⟨(some 27), .pick (.t 22) (.c (.v (.bool true))) (.t 26), none, none⟩])
  (.cond (.t 27) (.seq (.reg none [
    ⟨(some 6), .mv (.c (.v (.bool true))), none, none⟩])
   .ret) .skip))
  (.seq (.reg none [
   ⟨(some 28), .fieldA 0 (.t 3), none, none⟩,
   ⟨(some 29), .load none (.t 28), none, none⟩,
   ⟨(some 30), .fieldA 0 (.t 4), none, none⟩,
   ⟨(some 31), .load none (.t 30), none, none⟩,
   ⟨(some 32), .mv (.c .junk), none, (some ((.c (.clo f_caesuraref01_Ints [] [])), [(.t 29), (.t 31)]))⟩,
   ⟨(some 33), .mv (.t 32), none, none⟩,
   ⟨(some 34), .fieldA 1 (.t 3), (some (33, true)), none⟩,
   ⟨(some 35), .load none (.t 34), (some (33, true)), none⟩,
   ⟨(some 36), .fieldA 1 (.t 4), (some (33, true)), none⟩,
   ⟨(some 37), .load none (.t 36), (some (33, true)), none⟩,
   ⟨(some 38), .bin .eql (.t 35) (.t 37), (some (33, true)), none⟩,
   ⟨(some 39), .pick (.t 33) (.t 38) (.c (.v (.bool false))), none, none⟩,
   ⟨(some 7), .mv (.t 39), none, none⟩])
  (.seq (.reg none [
   ⟨(some 41), .load (some 2) (.t 3), none, none⟩,
   ⟨(some 42), .load (some 2) (.t 4), none, none⟩,
   ⟨(some 43), .load (some 2) (.t 5), none, none⟩,
   ⟨(some 44), .bslice 2 3 (.agg [(.sl true []), (.v (.int .i64 0))]) [(0, (.t 41)), (1, (.t 42)), (2, (.t 43))], none, none⟩,
   ⟨(some 45), .mv (.c .junk), none, (some ((.c (.clo f_wit_Least [] [])), [(.t 44)]))⟩,
   ⟨(some 40), .mv (.t 45), none, none⟩,
   ⟨(some 46), .ext 0 (.t 40), none, none⟩,
   ⟨(some 47), .ext 1 (.t 40), none, none⟩,
   ⟨(some 8), .alloc (.agg [(.sl true []), (.v (.int .i64 0))]) 2, none, none⟩,
   ⟨none, .store 2 (.t 8) (.t 46), none, none⟩,
   ⟨(some 9), .mv (.t 47), none, none⟩])
  (c_wo_tail f_wit_Before))))))

structure Wit where
  text : List Int
  place : Int
def encW (w : Wit) : AV := .agg [encIs w.text, encI w.place]
theorem closed_W (w : Wit) : Closed (encW w) := .agg _ (by
  intro y hy
  simp only [List.mem_cons, List.not_mem_nil, or_false] at hy
  rcases hy with rfl | rfl
  · exact closed_Is _
  · exact closed_I _)
def ordW (a b : Wit) : Int := orL [cmpI a.text.length b.text.length, cmpL a.text b.text, cmpI a.place b.place]
def beforeW (a b : Wit) : Bool := decide (ordW a b < 0)
theorem ordW_def (a b : Wit) : ordW a b = if ordL a.text b.text ≠ 0 then ordL a.text b.text else cmpI a.place b.place := by
  rw [ordL_def]
  simp only [ordW, orL]
  by_cases h1 : cmpI a.text.length b.text.length = 0
  · simp only [h1, ne_eq, not_true_eq_false, if_false]
    by_cases h2 : cmpL a.text b.text = 0
    · simp only [h2, ne_eq, not_true_eq_false, if_false]
      by_cases h3 : cmpI a.place b.place = 0
      · simp [h3]
      · simp [h3]
    · simp [h2]
  · simp [h1]
theorem ordW_swap (a b : Wit) : ordW b a = - ordW a b := by
  rw [ordW_def, ordW_def, ordL_swap a.text b.text, cmpI_swap a.place b.place]
  split <;> split <;> first | rfl | omega
theorem ordW_zero (a b : Wit) : ordW a b = 0 ↔ a.text = b.text ∧ a.place = b.place := by
  rw [ordW_def]
  split
  · rename_i h
    constructor
    · intro h1; exact (h h1).elim
    · rintro ⟨h1, _⟩; exact (h ((ordL_zero _ _).mpr h1)).elim
  · rename_i h
    rw [cmpI_zero]
    exact ⟨fun h1 => ⟨(ordL_zero _ _).mp (Decidable.not_not.mp h), h1⟩, fun h1 => h1.2⟩
theorem cmpI_trans {x y z : Int} (h1 : cmpI x y ≤ 0) (h2 : cmpI y z ≤ 0) : cmpI x z ≤ 0 ∧ (cmpI x z = 0 → cmpI x y = 0 ∧ cmpI y z = 0) := by
  unfold cmpI at *
  split at h1 <;> (try split at h1) <;> (split at h2 <;> (try split at h2)) <;> (try omega) <;> split <;> (try split) <;> (try split) <;> (try split) <;> omega
theorem cmpL_trans : ∀ (a b c : List Int), cmpL a b ≤ 0 → cmpL b c ≤ 0 → cmpL a c ≤ 0 ∧ (cmpL a c = 0 → cmpL a b = 0 ∧ cmpL b c = 0)
  | [], [], [], _, _ => by simp [cmpL]
  | [], [], _ :: _, _, _ => by simp [cmpL]
  | [], _ :: _, [], _, h => by simp [cmpL] at h
  | [], _ :: _, _ :: _, _, _ => by simp [cmpL]
  | _ :: _, [], _, h, _ => by simp [cmpL] at h
  | _ :: _, _ :: _, [], _, h => by simp [cmpL] at h
  | x :: a, y :: b, z :: c, h1, h2 => by
    simp only [cmpL] at *
    by_cases e1 : cmpI x y = 0 <;> by_cases e2 : cmpI y z = 0
    · have e3 : cmpI x z = 0 := by
        have t1 := cmpI_zero.mp e1
        have t2 := cmpI_zero.mp e2
        exact cmpI_zero.mpr (t1.trans t2)
      simp only [e1, e2, e3, ne_eq, not_true_eq_false, if_false] at h1 h2 ⊢
      exact cmpL_trans a b c h1 h2
    · have hxy := cmpI_zero.mp e1
      subst hxy
      simp only [e1, e2, ne_eq, not_true_eq_false, not_false_eq_true, if_false, if_true] at h1 h2 ⊢
      exact ⟨h2, fun h => h.elim⟩
    · have hyz := cmpI_zero.mp e2
      subst hyz
      simp only [e1, e2, ne_eq, not_true_eq_false, not_false_eq_true, if_false, if_true] at h1 h2 ⊢
      exact ⟨h1, fun h => h.elim⟩
    · simp only [e1, e2, ne_eq, not_true_eq_false, not_false_eq_true, if_false, if_true] at h1 h2 ⊢
      obtain ⟨t1, t2⟩ := cmpI_trans h1 h2
      have e3 : cmpI x z ≠ 0 := fun h => e1 (t2 h).1
      simp only [e3, ne_eq, not_false_eq_true, if_true]
      exact ⟨t1, fun h => h.elim⟩
/-- Two orders, one behind the other. -/
theorem lex_trans {p q r p' q' r' : Int} (h1 : (if p ≠ 0 then p else p') ≤ 0) (h2 : (if q ≠ 0 then q else q') ≤ 0) (t : p ≤ 0 → q ≤ 0 → r ≤ 0 ∧ (r = 0 → p = 0 ∧ q = 0)) (t0 : p = 0 → q = 0 → r = 0) (t' : p' ≤ 0 → q' ≤ 0 → r' ≤ 0 ∧ (r' = 0 → p' = 0 ∧ q' = 0)) :
    (if r ≠ 0 then r else r') ≤ 0 ∧ ((if r ≠ 0 then r else r') = 0 → (if p ≠ 0 then p else p') = 0 ∧ (if q ≠ 0 then q else q') = 0) := by
  by_cases hp : p = 0 <;> by_cases hq : q = 0
  · have hr := t0 hp hq
    simp only [hp, hq, hr, ne_eq, not_true_eq_false, if_false] at *
    exact t' h1 h2
  · rw [if_pos hq] at h2
    have := t (by omega) h2
    have hr : r ≠ 0 := fun h => hq (this.2 h).2
    rw [if_pos hr]; exact ⟨this.1, fun h => (hr h).elim⟩
  · rw [if_pos hp] at h1
    have := t h1 (by omega)
    have hr : r ≠ 0 := fun h => hp (this.2 h).1
    rw [if_pos hr]; exact ⟨this.1, fun h => (hr h).elim⟩
  · rw [if_pos hp] at h1
    rw [if_pos hq] at h2
    have := t h1 h2
    have hr : r ≠ 0 := fun h => hp (this.2 h).1
    rw [if_pos hr]; exact ⟨this.1, fun h => (hr h).elim⟩
theorem ordL_trans {a b c : List Int} (h1 : ordL a b ≤ 0) (h2 : ordL b c ≤ 0) : ordL a c ≤ 0 ∧ (ordL a c = 0 → ordL a b = 0 ∧ ordL b c = 0) := by
  rw [ordL_def] at h1
  rw [ordL_def] at h2
  rw [ordL_def a c, ordL_def a b, ordL_def b c]
  exact lex_trans h1 h2 (fun p q => cmpI_trans p q) (fun p q => by rw [cmpI_zero] at *; omega) (fun p q => cmpL_trans a b c p q)
theorem ordW_trans {a b c : Wit} (h1 : ordW a b ≤ 0) (h2 : ordW b c ≤ 0) : ordW a c ≤ 0 ∧ (ordW a c = 0 → ordW a b = 0 ∧ ordW b c = 0) := by
  rw [ordW_def] at h1 h2
  rw [ordW_def a c, ordW_def a b, ordW_def b c]
  exact lex_trans h1 h2 (fun p q => ordL_trans p q) (fun p q => by rw [ordL_zero] at *; rw [p, q]) (fun p q => cmpI_trans p q)
theorem CallD.kl {P : Program} {f : FuncId} {args : List AV} {r : AV} {S : St} (h : PureC P f args r) (hc : ∀ x ∈ args, Closed x) (hr : Closed r) : CallD P f args S [] r :=
  ⟨args, h, rfl, fun j h1 _ => .closed _ (hc _ (List.getElem_mem h1)), .inr (.inl ⟨rfl, hr⟩)⟩
theorem wit_compare_body {P : Program} {f1 f2 f3 : FuncId} (a b : Wit) (h1 : ∀ x y, PureC P f1 [encI x, encI y] (encI (cmpI x y))) (h2 : PureC P f2 [encIs a.text, encIs b.text] (encI (cmpL a.text b.text)))
    (h3 : ∀ l, Len l → PureC P f3 [.sl true (l.map encI)] (encI (orL l))) : AW P (c_wit_compare f1 f2 f3) (RetK [4] (FzK (encI (ordW a b)))) (argF [encW a, encW b]) S0 := by
  have d1 : ∀ n g, CallD P f1 [.v (.int .i64 a.text.length), .v (.int .i64 b.text.length)] ⟨n, g⟩ [] (encI (cmpI a.text.length b.text.length)) := fun n g => CallD.kl (h1 _ _) (cl_cons (closed_I _) (cl_cons (closed_I _) cl_nil)) (closed_I _)
  have d2 : ∀ n g, CallD P f2 [.sl false (a.text.map encI), .sl false (b.text.map encI)] ⟨n, g⟩ [] (encI (cmpL a.text b.text)) := fun n g => CallD.kl h2 (cl_cons (closed_Is _) (cl_cons (closed_Is _) cl_nil)) (closed_I _)
  have d3 : ∀ n g, CallD P f1 [.v (.int .i64 a.place), .v (.int .i64 b.place)] ⟨n, g⟩ [] (encI (cmpI a.place b.place)) := fun n g => CallD.kl (h1 _ _) (cl_cons (closed_I _) (cl_cons (closed_I _) cl_nil)) (closed_I _)
  have d4 : ∀ n g, CallD P f3 [.sl true [encI (cmpI a.text.length b.text.length), encI (cmpL a.text b.text), encI (cmpI a.place b.place)]] ⟨n, g⟩ [] (encI (ordW a b)) :=
    fun n g => CallD.kl (h3 [cmpI a.text.length b.text.length, cmpL a.text b.text, cmpI a.place b.place] (by simp [Len])) (cl_cons (closed_map closed_I [cmpI a.text.length b.text.length, cmpL a.text b.text, cmpI a.place b.place]) cl_nil) (closed_I _)
  simp [AW_seq, AW_reg, AW_regD, AW_block, AW_cond, AW_skip, AW_exit, AW_ret, AW_scp, condR_true, condR_false, AThen_normal, AThen_ret, AThen_exit, ABlock_normal, ABlock_ret, ABlock_exit, AScope_normal, AScope_ret, AScope_exit, RetK_ret, RetK_normal, retAV_one, retAV_two, retAV_three, retAV_nil, RG_nil, RG_op, RG_guard, gdR_tt, gdR_ff, gdR_tf, gdR_ft, gdR_un, RG_call, callQ_clo, contK_ap, opR_some, RD_nil, RD_op0, RD_op1, opD0_some, opD1_some, RD_call, callQD_clo, RD_guard, gdD_tt, gdD_ff, gdD_tf, gdD_ft, gdD_un, psh_nil, psh_cons, Apt_nil, Apt_nilT, Apt_true, Apt_false, Dis_def, runT_val, runT_rd, runT_wr, runT_new, runT_mv, ex, put_some, put_none, ev_t, ev_c, argF_zero, argF_succ, set_g, set_n, cells_v, cells_sl, cells_agg, cells_own, cells_ptr, cells_clo, cells_eptr, cells_mp, putc, exBslice, lfill, exField, exIdxV, exIdxP, exBox, exAlloc, exLoad, exStore, exFieldA, exIdxA, exLen, exPick, exUn, exBeq, exMM, exSeq, seqGo, exExt, binV, intOp, subc, AV.solid, S0, encI, encB, c_wit_compare, encW, encIs]
  refine ⟨_, ⟨_, d1 _ _⟩, _, ⟨_, d2 _ _⟩, _, ⟨_, d3 _ _⟩, ?_⟩
  simp [AW_seq, AW_reg, AW_regD, AW_block, AW_cond, AW_skip, AW_exit, AW_ret, AW_scp, condR_true, condR_false, AThen_normal, AThen_ret, AThen_exit, ABlock_normal, ABlock_ret, ABlock_exit, AScope_normal, AScope_ret, AScope_exit, RetK_ret, RetK_normal, retAV_one, retAV_two, retAV_three, retAV_nil, RG_nil, RG_op, RG_guard, gdR_tt, gdR_ff, gdR_tf, gdR_ft, gdR_un, RG_call, callQ_clo, contK_ap, opR_some, RD_nil, RD_op0, RD_op1, opD0_some, opD1_some, RD_call, callQD_clo, RD_guard, gdD_tt, gdD_ff, gdD_tf, gdD_ft, gdD_un, psh_nil, psh_cons, Apt_nil, Apt_nilT, Apt_true, Apt_false, Dis_def, runT_val, runT_rd, runT_wr, runT_new, runT_mv, ex, put_some, put_none, ev_t, ev_c, argF_zero, argF_succ, set_g, set_n, cells_v, cells_sl, cells_agg, cells_own, cells_ptr, cells_clo, cells_eptr, cells_mp, putc, exBslice, lfill, exField, exIdxV, exIdxP, exBox, exAlloc, exLoad, exStore, exFieldA, exIdxA, exLen, exPick, exUn, exBeq, exMM, exSeq, seqGo, exExt, binV, intOp, subc, AV.solid, S0, encI, encB]
  refine ⟨_, ⟨_, d4 _ _⟩, ?_⟩
  simp [AW_seq, AW_reg, AW_regD, AW_block, AW_cond, AW_skip, AW_exit, AW_ret, AW_scp, condR_true, condR_false, AThen_normal, AThen_ret, AThen_exit, ABlock_normal, ABlock_ret, ABlock_exit, AScope_normal, AScope_ret, AScope_exit, RetK_ret, RetK_normal, retAV_one, retAV_two, retAV_three, retAV_nil, RG_nil, RG_op, RG_guard, gdR_tt, gdR_ff, gdR_tf, gdR_ft, gdR_un, RG_call, callQ_clo, contK_ap, opR_some, RD_nil, RD_op0, RD_op1, opD0_some, opD1_some, RD_call, callQD_clo, RD_guard, gdD_tt, gdD_ff, gdD_tf, gdD_ft, gdD_un, psh_nil, psh_cons, Apt_nil, Apt_nilT, Apt_true, Apt_false, Dis_def, runT_val, runT_rd, runT_wr, runT_new, runT_mv, ex, put_some, put_none, ev_t, ev_c, argF_zero, argF_succ, set_g, set_n, cells_v, cells_sl, cells_agg, cells_own, cells_ptr, cells_clo, cells_eptr, cells_mp, putc, exBslice, lfill, exField, exIdxV, exIdxP, exBox, exAlloc, exLoad, exStore, exFieldA, exIdxA, exLen, exPick, exUn, exBeq, exMM, exSeq, seqGo, exExt, binV, intOp, subc, AV.solid, S0, encI, encB]
  exact FzK_I _ _
theorem wit_Before_body {P : Program} {f1 : FuncId} (a b : Wit) (h : PureC P f1 [encW a, encW b] (encI (ordW a b))) : AW P (c_wit_Before f1) (RetK [4] (FzK (encB (beforeW a b)))) (argF [encW a, encW b]) S0 := by
  have cW := closed_W
  simp only [encW] at h cW
  simp [AW_seq, AW_reg, AW_regD, AW_block, AW_cond, AW_skip, AW_exit, AW_ret, AW_scp, condR_true, condR_false, AThen_normal, AThen_ret, AThen_exit, ABlock_normal, ABlock_ret, ABlock_exit, AScope_normal, AScope_ret, AScope_exit, RetK_ret, RetK_normal, retAV_one, retAV_two, retAV_three, retAV_nil, RG_nil, RG_op, RG_guard, gdR_tt, gdR_ff, gdR_tf, gdR_ft, gdR_un, RG_call, callQ_clo, contK_ap, opR_some, RD_nil, RD_op0, RD_op1, opD0_some, opD1_some, RD_call, callQD_clo, RD_guard, gdD_tt, gdD_ff, gdD_tf, gdD_ft, gdD_un, psh_nil, psh_cons, Apt_nil, Apt_nilT, Apt_true, Apt_false, Dis_def, runT_val, runT_rd, runT_wr, runT_new, runT_mv, ex, put_some, put_none, ev_t, ev_c, argF_zero, argF_succ, set_g, set_n, cells_v, cells_sl, cells_agg, cells_own, cells_ptr, cells_clo, cells_eptr, cells_mp, putc, exBslice, lfill, exField, exIdxV, exIdxP, exBox, exAlloc, exLoad, exStore, exFieldA, exIdxA, exLen, exPick, exUn, exBeq, exMM, exSeq, seqGo, exExt, binV, intOp, subc, AV.solid, S0, encI, encB, c_wit_Before, encW]
  refine CallR.pure h (cl_cons (cW a) (cl_cons (cW b) cl_nil)) (closed_I _) ?_
  simp [AW_seq, AW_reg, AW_regD, AW_block, AW_cond, AW_skip, AW_exit, AW_ret, AW_scp, condR_true, condR_false, AThen_normal, AThen_ret, AThen_exit, ABlock_normal, ABlock_ret, ABlock_exit, AScope_normal, AScope_ret, AScope_exit, RetK_ret, RetK_normal, retAV_one, retAV_two, retAV_three, retAV_nil, RG_nil, RG_op, RG_guard, gdR_tt, gdR_ff, gdR_tf, gdR_ft, gdR_un, RG_call, callQ_clo, contK_ap, opR_some, RD_nil, RD_op0, RD_op1, opD0_some, opD1_some, RD_call, callQD_clo, RD_guard, gdD_tt, gdD_ff, gdD_tf, gdD_ft, gdD_un, psh_nil, psh_cons, Apt_nil, Apt_nilT, Apt_true, Apt_false, Dis_def, runT_val, runT_rd, runT_wr, runT_new, runT_mv, ex, put_some, put_none, ev_t, ev_c, argF_zero, argF_succ, set_g, set_n, cells_v, cells_sl, cells_agg, cells_own, cells_ptr, cells_clo, cells_eptr, cells_mp, putc, exBslice, lfill, exField, exIdxV, exIdxP, exBox, exAlloc, exLoad, exStore, exFieldA, exIdxA, exLen, exPick, exUn, exBeq, exMM, exSeq, seqGo, exExt, binV, intOp, subc, AV.solid, S0, encI, encB]
  exact FzK_B _ _
/-- The least of a list, of like ones the first. -/
def minW : Wit → List Wit → Wit
  | m, [] => m
  | m, w :: r => minW (if ordW w m < 0 then w else m) r
def mfI (l : List Wit) (f : FuncId) (x : Wit) (k : Nat) (a : AF) (S : St) : Prop :=
  ∃ (m : Wit) (i : Nat), i ≤ l.length ∧ k = l.length - i ∧ a 6 = encI i ∧ a 0 = .sl false (l.map encW) ∧ a 1 = .clo f [] [] ∧ a 4 = .ptr 0 0 0 ∧ a 5 = .ptr 7 0 0 ∧ 8 ≤ S.n ∧ S.g 0 = some (.arr 2 [.agg [.sl true [], encI 0]]) ∧ S.g 7 = some (.arr 2 [encW m]) ∧
    (m = x ∨ m ∈ l) ∧ minW m (l.drop i) = minW x (l.drop 1)
theorem MinFunc_body {P : Program} {f : FuncId} (l : List Wit) (hne : l ≠ []) (hl : l.length ≤ 1000) (h : ∀ a b, a ∈ l → b ∈ l → PureC P f [encW a, encW b] (encI (ordW a b))) :
    AW P c_slices_MinFunc_Sapi_Wit_api_Wit_ (RetC [.c 4 (some 2)] (FzK (encW (minW (l.headD ⟨[], 0⟩) (l.drop 1))))) (argF [.sl false (l.map encW), .clo f [] []]) S0 := by
  obtain ⟨x, r, rfl⟩ := List.exists_cons_of_ne_nil hne
  have hn1 : ¬ ((r.length : Int) + 1 < 1) := by omega
  have eW : ∀ w : Wit, encW w = .agg [encIs w.text, .v (.int .i64 w.place)] := fun _ => rfl
  simp [AW_seq, AW_reg, AW_regD, AW_block, AW_cond, AW_skip, AW_exit, AW_ret, AW_scp, condR_true, condR_false, AThen_normal, AThen_ret, AThen_exit, ABlock_normal, ABlock_ret, ABlock_exit, AScope_normal, AScope_ret, AScope_exit, RetK_ret, RetK_normal, retAV_one, retAV_two, retAV_three, retAV_nil, RG_nil, RG_op, RG_guard, gdR_tt, gdR_ff, gdR_tf, gdR_ft, gdR_un, RG_call, callQ_clo, contK_ap, opR_some, RD_nil, RD_op0, RD_op1, opD0_some, opD1_some, RD_call, callQD_clo, RD_guard, gdD_tt, gdD_ff, gdD_tf, gdD_ft, gdD_un, psh_nil, psh_cons, Apt_nil, Apt_nilT, Apt_true, Apt_false, Dis_def, runT_val, runT_rd, runT_wr, runT_new, runT_mv, ex, put_some, put_none, ev_t, ev_c, argF_zero, argF_succ, set_g, set_n, cells_v, cells_sl, cells_agg, cells_own, cells_ptr, cells_clo, cells_eptr, cells_mp, putc, exBslice, lfill, exField, exIdxV, exIdxP, exBox, exAlloc, exLoad, exStore, exFieldA, exIdxA, exLen, exPick, exUn, exBeq, exMM, exSeq, seqGo, exExt, binV, intOp, subc, AV.solid, S0, encI, encB, c_slices_MinFunc_Sapi_Wit_api_Wit_, hn1, eW]
  refine AW_loop (mfI (x :: r) f x) r.length ?_ ?_
  · refine ⟨x, 1, by simp, by simp, ?_, ?_, ?_, ?_, ?_, by simp, ?_, ?_, .inl rfl, rfl⟩ <;> simp [put_some, argF_zero, argF_succ, encI, encW, set_g]
  · rintro k a S ⟨m, i, hi, rfl, e6, e0, e1, e4, e5, hn, g0, g7, hm, hq⟩
    simp only [List.length_cons] at hi hl
    simp only [encW] at g7
    by_cases hlt : i < (x :: r).length
    · have hin : (x :: r)[i] ∈ x :: r := List.getElem_mem hlt
      have hmm : m ∈ x :: r := by
        rcases hm with rfl | h1
        · exact List.mem_cons_self ..
        · exact h1
      rw [List.drop_eq_getElem_cons hlt, minW] at hq
      have hgi : ∀ (hh : i < (encW x :: r.map encW).length), (encW x :: r.map encW)[i] = .agg [encIs (x :: r)[i].text, .v (.int .i64 (x :: r)[i].place)] := by
        intro hh
        have : (encW x :: r.map encW)[i] = ((x :: r).map encW)[i]'(by simpa using hlt) := rfl
        rw [this, List.getElem_map]; rfl
      generalize hw : (x :: r)[i] = w at *
      have d := h w m hin hmm
      have hd : ∀ n g, CallD P f [.agg [encIs w.text, .v (.int .i64 w.place)], .agg [encIs m.text, .v (.int .i64 m.place)]] ⟨n, g⟩ [] (encI (ordW w m)) := fun n g => CallD.kl d (cl_cons (closed_W _) (cl_cons (closed_W _) cl_nil)) (closed_I _)
      have hlt1 : (i : Int) < (r.length : Int) + 1 := by simp only [List.length_cons] at hlt; omega
      have hlt2 : i < r.length + 1 := by simpa using hlt
      simp [AW_seq, AW_reg, AW_regD, AW_block, AW_cond, AW_skip, AW_exit, AW_ret, AW_scp, condR_true, condR_false, AThen_normal, AThen_ret, AThen_exit, ABlock_normal, ABlock_ret, ABlock_exit, AScope_normal, AScope_ret, AScope_exit, RetK_ret, RetK_normal, retAV_one, retAV_two, retAV_three, retAV_nil, RG_nil, RG_op, RG_guard, gdR_tt, gdR_ff, gdR_tf, gdR_ft, gdR_un, RG_call, callQ_clo, contK_ap, opR_some, RD_nil, RD_op0, RD_op1, opD0_some, opD1_some, RD_call, callQD_clo, RD_guard, gdD_tt, gdD_ff, gdD_tf, gdD_ft, gdD_un, psh_nil, psh_cons, Apt_nil, Apt_nilT, Apt_true, Apt_false, Dis_def, runT_val, runT_rd, runT_wr, runT_new, runT_mv, ex, put_some, put_none, ev_t, ev_c, argF_zero, argF_succ, set_g, set_n, cells_v, cells_sl, cells_agg, cells_own, cells_ptr, cells_clo, cells_eptr, cells_mp, putc, exBslice, lfill, exField, exIdxV, exIdxP, exBox, exAlloc, exLoad, exStore, exFieldA, exIdxA, exLen, exPick, exUn, exBeq, exMM, exSeq, seqGo, exExt, binV, intOp, subc, AV.solid, S0, encI, encB, e6, e0, e1, e4, e5, g0, g7, hlt1, hlt2, hgi]
      refine ⟨_, ⟨_, hd _ _⟩, ?_⟩
      by_cases hneg : ordW w m < 0
      · simp [AW_seq, AW_reg, AW_regD, AW_block, AW_cond, AW_skip, AW_exit, AW_ret, AW_scp, condR_true, condR_false, AThen_normal, AThen_ret, AThen_exit, ABlock_normal, ABlock_ret, ABlock_exit, AScope_normal, AScope_ret, AScope_exit, RetK_ret, RetK_normal, retAV_one, retAV_two, retAV_three, retAV_nil, RG_nil, RG_op, RG_guard, gdR_tt, gdR_ff, gdR_tf, gdR_ft, gdR_un, RG_call, callQ_clo, contK_ap, opR_some, RD_nil, RD_op0, RD_op1, opD0_some, opD1_some, RD_call, callQD_clo, RD_guard, gdD_tt, gdD_ff, gdD_tf, gdD_ft, gdD_un, psh_nil, psh_cons, Apt_nil, Apt_nilT, Apt_true, Apt_false, Dis_def, runT_val, runT_rd, runT_wr, runT_new, runT_mv, ex, put_some, put_none, ev_t, ev_c, argF_zero, argF_succ, set_g, set_n, cells_v, cells_sl, cells_agg, cells_own, cells_ptr, cells_clo, cells_eptr, cells_mp, putc, exBslice, lfill, exField, exIdxV, exIdxP, exBox, exAlloc, exLoad, exStore, exFieldA, exIdxA, exLen, exPick, exUn, exBeq, exMM, exSeq, seqGo, exExt, binV, intOp, subc, AV.solid, S0, encI, encB, hneg, e6, e0, e1, e4, e5, g0, g7, hlt1, hlt2, hgi]
        rw [wrap_in _ (by omega)]
        refine ⟨r.length + 1 - (i + 1), by omega, w, i + 1, by simp; omega, by simp, ?_, ?_, ?_, ?_, ?_, ?_, ?_, ?_, .inr hin, ?_⟩
        · simp [put_some, encI]
        · simp [put_some, e0]
        · simp [put_some, e1]
        · simp [put_some, e4]
        · simp [put_some, e5]
        · simp
        · simp [set_g, g0]
        · simp [set_g, encW, encI]
        · rw [if_pos hneg] at hq; exact hq
      · simp [AW_seq, AW_reg, AW_regD, AW_block, AW_cond, AW_skip, AW_exit, AW_ret, AW_scp, condR_true, condR_false, AThen_normal, AThen_ret, AThen_exit, ABlock_normal, ABlock_ret, ABlock_exit, AScope_normal, AScope_ret, AScope_exit, RetK_ret, RetK_normal, retAV_one, retAV_two, retAV_three, retAV_nil, RG_nil, RG_op, RG_guard, gdR_tt, gdR_ff, gdR_tf, gdR_ft, gdR_un, RG_call, callQ_clo, contK_ap, opR_some, RD_nil, RD_op0, RD_op1, opD0_some, opD1_some, RD_call, callQD_clo, RD_guard, gdD_tt, gdD_ff, gdD_tf, gdD_ft, gdD_un, psh_nil, psh_cons, Apt_nil, Apt_nilT, Apt_true, Apt_false, Dis_def, runT_val, runT_rd, runT_wr, runT_new, runT_mv, ex, put_some, put_none, ev_t, ev_c, argF_zero, argF_succ, set_g, set_n, cells_v, cells_sl, cells_agg, cells_own, cells_ptr, cells_clo, cells_eptr, cells_mp, putc, exBslice, lfill, exField, exIdxV, exIdxP, exBox, exAlloc, exLoad, exStore, exFieldA, exIdxA, exLen, exPick, exUn, exBeq, exMM, exSeq, seqGo, exExt, binV, intOp, subc, AV.solid, S0, encI, encB, hneg, e6, e0, e1, e4, e5, g0, g7, hlt1, hlt2, hgi]
        rw [wrap_in _ (by omega)]
        refine ⟨r.length + 1 - (i + 1), by omega, m, i + 1, by simp; omega, by simp, ?_, ?_, ?_, ?_, ?_, ?_, ?_, ?_, hm, ?_⟩
        · simp [put_some, encI]
        · simp [put_some, e0]
        · simp [put_some, e1]
        · simp [put_some, e4]
        · simp [put_some, e5]
        · simp
        · simp [g0]
        · simp [g7, encW]
        · rw [if_neg hneg] at hq; exact hq
    · have hle : (x :: r).length ≤ i := by omega
      rw [List.drop_of_length_le hle, minW] at hq
      have hlt1 : ¬ (i : Int) < (r.length : Int) + 1 := by simp only [List.length_cons] at hle; omega
      have hlt2 : ¬ i < r.length + 1 := by simpa using hlt
      subst hq
      simp [AW_seq, AW_reg, AW_regD, AW_block, AW_cond, AW_skip, AW_exit, AW_ret, AW_scp, condR_true, condR_false, AThen_normal, AThen_ret, AThen_exit, ABlock_normal, ABlock_ret, ABlock_exit, AScope_normal, AScope_ret, AScope_exit, RetK_ret, RetK_normal, retAV_one, retAV_two, retAV_three, retAV_nil, RG_nil, RG_op, RG_guard, gdR_tt, gdR_ff, gdR_tf, gdR_ft, gdR_un, RG_call, callQ_clo, contK_ap, opR_some, RD_nil, RD_op0, RD_op1, opD0_some, opD1_some, RD_call, callQD_clo, RD_guard, gdD_tt, gdD_ff, gdD_tf, gdD_ft, gdD_un, psh_nil, psh_cons, Apt_nil, Apt_nilT, Apt_true, Apt_false, Dis_def, runT_val, runT_rd, runT_wr, runT_new, runT_mv, ex, put_some, put_none, ev_t, ev_c, argF_zero, argF_succ, set_g, set_n, cells_v, cells_sl, cells_agg, cells_own, cells_ptr, cells_clo, cells_eptr, cells_mp, putc, exBslice, lfill, exField, exIdxV, exIdxP, exBox, exAlloc, exLoad, exStore, exFieldA, exIdxA, exLen, exPick, exUn, exBeq, exMM, exSeq, seqGo, exExt, binV, intOp, subc, AV.solid, S0, encI, encB, e6, e0, e1, e4, e5, g0, g7, hlt1, hlt2]
      refine ⟨[encW (minW x r)], ?_, .closed _ (closed_W _)⟩
      simp [evC, RV.ev, put_some, e4, ldC, set_g, subc, encW, encI, cells_agg]
theorem wit_Least_body {P : Program} {fm fc : FuncId} (l : List Wit) (hne : l ≠ []) (h : PureC P fm [.sl true (l.map encW), .clo fc [] []] (encW (minW (l.headD ⟨[], 0⟩) (l.drop 1)))) :
    AW P (c_wit_Least fm fc) (RetC [.c 2 (some 2), .t 3] (FzK (.tup [encW (minW (l.headD ⟨[], 0⟩) (l.drop 1)), encB true]))) (argF [.sl true (l.map encW)]) S0 := by
  obtain ⟨x, r, rfl⟩ := List.exists_cons_of_ne_nil hne
  have hn1 : ((r.length : Int) + 1 == 0) = false := beq_false_of_ne (by omega)
  have cl : Closed (.sl true ((x :: r).map encW)) := closed_map closed_W _
  have eW : ∀ w : Wit, encW w = .agg [encIs w.text, .v (.int .i64 w.place)] := fun _ => rfl
  have cW := closed_W (minW ((x :: r).headD ⟨[], 0⟩) ((x :: r).drop 1))
  have cW2 : ∀ y ∈ [encW (minW ((x :: r).headD ⟨[], 0⟩) ((x :: r).drop 1)), encB true], Closed y := cl_cons cW (cl_cons (closed_B _) cl_nil)
  generalize minW ((x :: r).headD ⟨[], 0⟩) ((x :: r).drop 1) = m at *
  rw [eW] at h cW cW2
  simp [AW_seq, AW_reg, AW_regD, AW_block, AW_cond, AW_skip, AW_exit, AW_ret, AW_scp, condR_true, condR_false, AThen_normal, AThen_ret, AThen_exit, ABlock_normal, ABlock_ret, ABlock_exit, AScope_normal, AScope_ret, AScope_exit, RetK_ret, RetK_normal, retAV_one, retAV_two, retAV_three, retAV_nil, RG_nil, RG_op, RG_guard, gdR_tt, gdR_ff, gdR_tf, gdR_ft, gdR_un, RG_call, callQ_clo, contK_ap, opR_some, RD_nil, RD_op0, RD_op1, opD0_some, opD1_some, RD_call, callQD_clo, RD_guard, gdD_tt, gdD_ff, gdD_tf, gdD_ft, gdD_un, psh_nil, psh_cons, Apt_nil, Apt_nilT, Apt_true, Apt_false, Dis_def, runT_val, runT_rd, runT_wr, runT_new, runT_mv, ex, put_some, put_none, ev_t, ev_c, argF_zero, argF_succ, set_g, set_n, cells_v, cells_sl, cells_agg, cells_own, cells_ptr, cells_clo, cells_eptr, cells_mp, putc, exBslice, lfill, exField, exIdxV, exIdxP, exBox, exAlloc, exLoad, exStore, exFieldA, exIdxA, exLen, exPick, exUn, exBeq, exMM, exSeq, seqGo, exExt, binV, intOp, subc, AV.solid, S0, encI, encB, c_wit_Least, hn1, eW m]
  refine CallR.pure h (cl_cons cl (cl_cons (.clo _ _ _ cl_nil cl_nil) cl_nil)) cW ?_
  simp [AW_seq, AW_reg, AW_regD, AW_block, AW_cond, AW_skip, AW_exit, AW_ret, AW_scp, condR_true, condR_false, AThen_normal, AThen_ret, AThen_exit, ABlock_normal, ABlock_ret, ABlock_exit, AScope_normal, AScope_ret, AScope_exit, RetK_ret, RetK_normal, retAV_one, retAV_two, retAV_three, retAV_nil, RG_nil, RG_op, RG_guard, gdR_tt, gdR_ff, gdR_tf, gdR_ft, gdR_un, RG_call, callQ_clo, contK_ap, opR_some, RD_nil, RD_op0, RD_op1, opD0_some, opD1_some, RD_call, callQD_clo, RD_guard, gdD_tt, gdD_ff, gdD_tf, gdD_ft, gdD_un, psh_nil, psh_cons, Apt_nil, Apt_nilT, Apt_true, Apt_false, Dis_def, runT_val, runT_rd, runT_wr, runT_new, runT_mv, ex, put_some, put_none, ev_t, ev_c, argF_zero, argF_succ, set_g, set_n, cells_v, cells_sl, cells_agg, cells_own, cells_ptr, cells_clo, cells_eptr, cells_mp, putc, exBslice, lfill, exField, exIdxV, exIdxP, exBox, exAlloc, exLoad, exStore, exFieldA, exIdxA, exLen, exPick, exUn, exBeq, exMM, exSeq, seqGo, exExt, binV, intOp, subc, AV.solid, S0, encI, encB]
  refine ⟨[encW m, encB true], ?_, .closed _ (.tup _ cW2)⟩
  simp [evC, RV.ev, put_some, put_none, ev_c, ldC, set_g, subc, encW, encI, encB, cells_agg]
theorem ordW_self (a : Wit) : ordW a a = 0 := (ordW_zero a a).mpr ⟨rfl, rfl⟩
theorem beforeW_self (a : Wit) : beforeW a a = false := by simp [beforeW, ordW_self]
theorem minW_le : ∀ (l : List Wit) (m : Wit), ordW (minW m l) m ≤ 0 ∧ ∀ w ∈ l, ordW (minW m l) w ≤ 0
  | [], m => by simp [minW, ordW_self]
  | x :: l, m => by
    obtain ⟨h1, h2⟩ := minW_le l (if ordW x m < 0 then x else m)
    simp only [minW]
    have hs := ordW_swap x m
    split at h1
    · rename_i hn
      rw [if_pos hn] at h2 ⊢
      exact ⟨(ordW_trans h1 (by omega)).1, fun w hw => by
        rcases List.mem_cons.mp hw with rfl | hw
        · exact h1
        · exact h2 w hw⟩
    · rename_i hn
      rw [if_neg hn] at h2 ⊢
      exact ⟨h1, fun w hw => by
        rcases List.mem_cons.mp hw with rfl | hw
        · exact (ordW_trans h1 (by omega)).1
        · exact h2 w hw⟩
theorem minW_in : ∀ (l : List Wit) (m : Wit), minW m l = m ∨ minW m l ∈ l
  | [], m => .inl rfl
  | x :: l, m => by
    simp only [minW]
    rcases minW_in l (if ordW x m < 0 then x else m) with h | h
    · rw [h]
      split
      · exact .inr (List.mem_cons_self ..)
      · exact .inl rfl
    · exact .inr (List.mem_cons_of_mem _ h)
theorem beforeW_of {a b : Wit} (h : ordW a b ≤ 0) : beforeW b a = false := by
  have := ordW_swap a b
  simp only [beforeW, decide_eq_false_iff_not]; omega
theorem wit_law (a b c : Wit) : (((a.text == b.text) && (a.place == b.place)) != (beforeW a b || beforeW b a)) = true ∧ (!beforeW a b || !beforeW b a) = true ∧ (!beforeW a b || !beforeW b c || beforeW a c) = true := by
  have h1 := ordW_swap a b
  have h2 := ordW_zero a b
  refine ⟨?_, ?_, ?_⟩
  · by_cases he : ordW a b = 0
    · obtain ⟨e1, e2⟩ := h2.mp he
      have e3 : beforeW a b = false := by simp [beforeW, he]
      have e4 : beforeW b a = false := by simp [beforeW, h1, he]
      simp [e1, e2, e3, e4]
    · have e3 : (beforeW a b || beforeW b a) = true := by
        simp only [beforeW, Bool.or_eq_true, decide_eq_true_eq]; omega
      have e5 : ((a.text == b.text) && (a.place == b.place)) = false := by
        cases e : ((a.text == b.text) && (a.place == b.place)) with
        | false => rfl
        | true =>
          simp only [Bool.and_eq_true, beq_iff_eq] at e
          exact (he (h2.mpr e)).elim
      simp [e3, e5]
  · simp only [beforeW, Bool.or_eq_true, Bool.not_eq_true', decide_eq_false_iff_not]; omega
  · by_cases e1 : ordW a b < 0
    · by_cases e2 : ordW b c < 0
      · obtain ⟨t1, t2⟩ := ordW_trans (a := a) (b := b) (c := c) (by omega) (by omega)
        have : ordW a c < 0 := by
          rcases Int.lt_or_eq_of_le t1 with h | h
          · exact h
          · have := (t2 h).1; omega
        simp [beforeW, this]
      · simp [beforeW, e2]
    · simp [beforeW, e1]
theorem wo_tail {P : Program} {fb : FuncId} {a b c m : Wit} {q : Nat} (hb : ∀ x y : Wit, Len x.text → Len y.text → PureC P fb [encW x, encW y] (encB (beforeW x y))) (la : Len a.text) (lb : Len b.text) (lc : Len c.text) (hm : minW a [b, c] = m) {f : AF} {S : St}
    (e3 : f 3 = .ptr 0 0 0) (e4 : f 4 = .ptr 1 0 0) (e5 : f 5 = .ptr 2 0 0) (e7 : f 7 = encB ((a.text == b.text) && (a.place == b.place))) (e8 : f 8 = .ptr q 0 0) (e9 : f 9 = encB true)
    (g0 : S.g 0 = some (.arr 2 [encW a])) (g1 : S.g 1 = some (.arr 2 [encW b])) (g2 : S.g 2 = some (.arr 2 [encW c])) (gq : S.g q = some (.arr 2 [encW m])) :
    AW P (c_wo_tail fb) (RetK [6] (FzK (encB true))) f S := by
  have hin : m = a ∨ m = b ∨ m = c := by
    rcases minW_in [b, c] a with h | h
    · left; rw [← hm, h]
    · right; rw [hm] at h; simpa using h
  have lm : Len m.text := by rcases hin with rfl | rfl | rfl <;> assumption
  obtain ⟨o1, o2⟩ := minW_le [b, c] a
  rw [hm] at o1 o2
  have k0 := hb m m lm lm
  have k1 := hb a m la lm
  have k2 := hb b m lb lm
  have k3 := hb c m lc lm
  rw [beforeW_self] at k0
  rw [beforeW_of o1] at k1
  rw [beforeW_of (o2 b (by simp))] at k2
  rw [beforeW_of (o2 c (by simp))] at k3
  have hab := hb a b la lb
  have hba := hb b a lb la
  have hbc := hb b c lb lc
  have hac := hb a c la lc
  have cW := closed_W
  obtain ⟨l1, l2, l3⟩ := wit_law a b c
  generalize beforeW a b = pab at *
  generalize beforeW b a = pba at *
  generalize beforeW b c = pbc at *
  generalize beforeW a c = pac at *
  generalize ((a.text == b.text) && (a.place == b.place)) = same at *
  simp only [encW] at *
  simp [AW_seq, AW_reg, AW_regD, AW_block, AW_cond, AW_skip, AW_exit, AW_ret, AW_scp, condR_true, condR_false, AThen_normal, AThen_ret, AThen_exit, ABlock_normal, ABlock_ret, ABlock_exit, AScope_normal, AScope_ret, AScope_exit, RetK_ret, RetK_normal, retAV_one, retAV_two, retAV_three, retAV_nil, RG_nil, RG_op, RG_guard, gdR_tt, gdR_ff, gdR_tf, gdR_ft, gdR_un, RG_call, callQ_clo, contK_ap, opR_some, RD_nil, RD_op0, RD_op1, opD0_some, opD1_some, RD_call, callQD_clo, RD_guard, gdD_tt, gdD_ff, gdD_tf, gdD_ft, gdD_un, psh_nil, psh_cons, Apt_nil, Apt_nilT, Apt_true, Apt_false, Dis_def, runT_val, runT_rd, runT_wr, runT_new, runT_mv, ex, put_some, put_none, ev_t, ev_c, argF_zero, argF_succ, set_g, set_n, cells_v, cells_sl, cells_agg, cells_own, cells_ptr, cells_clo, cells_eptr, cells_mp, putc, exBslice, lfill, exField, exIdxV, exIdxP, exBox, exAlloc, exLoad, exStore, exFieldA, exIdxA, exLen, exPick, exUn, exBeq, exMM, exSeq, seqGo, exExt, binV, intOp, subc, AV.solid, S0, encI, encB, c_wo_tail, e3, e4, e5, e7, e8, e9, g0, g1, g2, gq]
  refine CallR.pure k0 (cl_cons (cW m) (cl_cons (cW m) cl_nil)) (closed_B _) ?_
  simp [AW_seq, AW_reg, AW_regD, AW_block, AW_cond, AW_skip, AW_exit, AW_ret, AW_scp, condR_true, condR_false, AThen_normal, AThen_ret, AThen_exit, ABlock_normal, ABlock_ret, ABlock_exit, AScope_normal, AScope_ret, AScope_exit, RetK_ret, RetK_normal, retAV_one, retAV_two, retAV_three, retAV_nil, RG_nil, RG_op, RG_guard, gdR_tt, gdR_ff, gdR_tf, gdR_ft, gdR_un, RG_call, callQ_clo, contK_ap, opR_some, RD_nil, RD_op0, RD_op1, opD0_some, opD1_some, RD_call, callQD_clo, RD_guard, gdD_tt, gdD_ff, gdD_tf, gdD_ft, gdD_un, psh_nil, psh_cons, Apt_nil, Apt_nilT, Apt_true, Apt_false, Dis_def, runT_val, runT_rd, runT_wr, runT_new, runT_mv, ex, put_some, put_none, ev_t, ev_c, argF_zero, argF_succ, set_g, set_n, cells_v, cells_sl, cells_agg, cells_own, cells_ptr, cells_clo, cells_eptr, cells_mp, putc, exBslice, lfill, exField, exIdxV, exIdxP, exBox, exAlloc, exLoad, exStore, exFieldA, exIdxA, exLen, exPick, exUn, exBeq, exMM, exSeq, seqGo, exExt, binV, intOp, subc, AV.solid, S0, encI, encB, e3, e4, e5, e7, e8, e9, g0, g1, g2, gq]
  refine CallR.pure k1 (cl_cons (cW a) (cl_cons (cW m) cl_nil)) (closed_B _) ?_
  simp [AW_seq, AW_reg, AW_regD, AW_block, AW_cond, AW_skip, AW_exit, AW_ret, AW_scp, condR_true, condR_false, AThen_normal, AThen_ret, AThen_exit, ABlock_normal, ABlock_ret, ABlock_exit, AScope_normal, AScope_ret, AScope_exit, RetK_ret, RetK_normal, retAV_one, retAV_two, retAV_three, retAV_nil, RG_nil, RG_op, RG_guard, gdR_tt, gdR_ff, gdR_tf, gdR_ft, gdR_un, RG_call, callQ_clo, contK_ap, opR_some, RD_nil, RD_op0, RD_op1, opD0_some, opD1_some, RD_call, callQD_clo, RD_guard, gdD_tt, gdD_ff, gdD_tf, gdD_ft, gdD_un, psh_nil, psh_cons, Apt_nil, Apt_nilT, Apt_true, Apt_false, Dis_def, runT_val, runT_rd, runT_wr, runT_new, runT_mv, ex, put_some, put_none, ev_t, ev_c, argF_zero, argF_succ, set_g, set_n, cells_v, cells_sl, cells_agg, cells_own, cells_ptr, cells_clo, cells_eptr, cells_mp, putc, exBslice, lfill, exField, exIdxV, exIdxP, exBox, exAlloc, exLoad, exStore, exFieldA, exIdxA, exLen, exPick, exUn, exBeq, exMM, exSeq, seqGo, exExt, binV, intOp, subc, AV.solid, S0, encI, encB, e3, e4, e5, e7, e8, e9, g0, g1, g2, gq]
  refine CallR.pure k2 (cl_cons (cW b) (cl_cons (cW m) cl_nil)) (closed_B _) ?_
  simp [AW_seq, AW_reg, AW_regD, AW_block, AW_cond, AW_skip, AW_exit, AW_ret, AW_scp, condR_true, condR_false, AThen_normal, AThen_ret, AThen_exit, ABlock_normal, ABlock_ret, ABlock_exit, AScope_normal, AScope_ret, AScope_exit, RetK_ret, RetK_normal, retAV_one, retAV_two, retAV_three, retAV_nil, RG_nil, RG_op, RG_guard, gdR_tt, gdR_ff, gdR_tf, gdR_ft, gdR_un, RG_call, callQ_clo, contK_ap, opR_some, RD_nil, RD_op0, RD_op1, opD0_some, opD1_some, RD_call, callQD_clo, RD_guard, gdD_tt, gdD_ff, gdD_tf, gdD_ft, gdD_un, psh_nil, psh_cons, Apt_nil, Apt_nilT, Apt_true, Apt_false, Dis_def, runT_val, runT_rd, runT_wr, runT_new, runT_mv, ex, put_some, put_none, ev_t, ev_c, argF_zero, argF_succ, set_g, set_n, cells_v, cells_sl, cells_agg, cells_own, cells_ptr, cells_clo, cells_eptr, cells_mp, putc, exBslice, lfill, exField, exIdxV, exIdxP, exBox, exAlloc, exLoad, exStore, exFieldA, exIdxA, exLen, exPick, exUn, exBeq, exMM, exSeq, seqGo, exExt, binV, intOp, subc, AV.solid, S0, encI, encB, e3, e4, e5, e7, e8, e9, g0, g1, g2, gq]
  refine CallR.pure k3 (cl_cons (cW c) (cl_cons (cW m) cl_nil)) (closed_B _) ?_
  simp [AW_seq, AW_reg, AW_regD, AW_block, AW_cond, AW_skip, AW_exit, AW_ret, AW_scp, condR_true, condR_false, AThen_normal, AThen_ret, AThen_exit, ABlock_normal, ABlock_ret, ABlock_exit, AScope_normal, AScope_ret, AScope_exit, RetK_ret, RetK_normal, retAV_one, retAV_two, retAV_three, retAV_nil, RG_nil, RG_op, RG_guard, gdR_tt, gdR_ff, gdR_tf, gdR_ft, gdR_un, RG_call, callQ_clo, contK_ap, opR_some, RD_nil, RD_op0, RD_op1, opD0_some, opD1_some, RD_call, callQD_clo, RD_guard, gdD_tt, gdD_ff, gdD_tf, gdD_ft, gdD_un, psh_nil, psh_cons, Apt_nil, Apt_nilT, Apt_true, Apt_false, Dis_def, runT_val, runT_rd, runT_wr, runT_new, runT_mv, ex, put_some, put_none, ev_t, ev_c, argF_zero, argF_succ, set_g, set_n, cells_v, cells_sl, cells_agg, cells_own, cells_ptr, cells_clo, cells_eptr, cells_mp, putc, exBslice, lfill, exField, exIdxV, exIdxP, exBox, exAlloc, exLoad, exStore, exFieldA, exIdxA, exLen, exPick, exUn, exBeq, exMM, exSeq, seqGo, exExt, binV, intOp, subc, AV.solid, S0, encI, encB, e3, e4, e5, e7, e8, e9, g0, g1, g2, gq]
  refine CallR.pure hab (cl_cons (cW a) (cl_cons (cW b) cl_nil)) (closed_B _) ?_
  cases pab with
  | true =>
    have hs : same = false := by revert l1; cases same <;> simp
    have hq : pba = false := by revert l2; cases pba <;> simp
    subst hs hq
    simp [AW_seq, AW_reg, AW_regD, AW_block, AW_cond, AW_skip, AW_exit, AW_ret, AW_scp, condR_true, condR_false, AThen_normal, AThen_ret, AThen_exit, ABlock_normal, ABlock_ret, ABlock_exit, AScope_normal, AScope_ret, AScope_exit, RetK_ret, RetK_normal, retAV_one, retAV_two, retAV_three, retAV_nil, RG_nil, RG_op, RG_guard, gdR_tt, gdR_ff, gdR_tf, gdR_ft, gdR_un, RG_call, callQ_clo, contK_ap, opR_some, RD_nil, RD_op0, RD_op1, opD0_some, opD1_some, RD_call, callQD_clo, RD_guard, gdD_tt, gdD_ff, gdD_tf, gdD_ft, gdD_un, psh_nil, psh_cons, Apt_nil, Apt_nilT, Apt_true, Apt_false, Dis_def, runT_val, runT_rd, runT_wr, runT_new, runT_mv, ex, put_some, put_none, ev_t, ev_c, argF_zero, argF_succ, set_g, set_n, cells_v, cells_sl, cells_agg, cells_own, cells_ptr, cells_clo, cells_eptr, cells_mp, putc, exBslice, lfill, exField, exIdxV, exIdxP, exBox, exAlloc, exLoad, exStore, exFieldA, exIdxA, exLen, exPick, exUn, exBeq, exMM, exSeq, seqGo, exExt, binV, intOp, subc, AV.solid, S0, encI, encB, e3, e4, e5, e7, e8, e9, g0, g1, g2, gq]
    refine CallR.pure hab (cl_cons (cW a) (cl_cons (cW b) cl_nil)) (closed_B _) ?_
    simp [AW_seq, AW_reg, AW_regD, AW_block, AW_cond, AW_skip, AW_exit, AW_ret, AW_scp, condR_true, condR_false, AThen_normal, AThen_ret, AThen_exit, ABlock_normal, ABlock_ret, ABlock_exit, AScope_normal, AScope_ret, AScope_exit, RetK_ret, RetK_normal, retAV_one, retAV_two, retAV_three, retAV_nil, RG_nil, RG_op, RG_guard, gdR_tt, gdR_ff, gdR_tf, gdR_ft, gdR_un, RG_call, callQ_clo, contK_ap, opR_some, RD_nil, RD_op0, RD_op1, opD0_some, opD1_some, RD_call, callQD_clo, RD_guard, gdD_tt, gdD_ff, gdD_tf, gdD_ft, gdD_un, psh_nil, psh_cons, Apt_nil, Apt_nilT, Apt_true, Apt_false, Dis_def, runT_val, runT_rd, runT_wr, runT_new, runT_mv, ex, put_some, put_none, ev_t, ev_c, argF_zero, argF_succ, set_g, set_n, cells_v, cells_sl, cells_agg, cells_own, cells_ptr, cells_clo, cells_eptr, cells_mp, putc, exBslice, lfill, exField, exIdxV, exIdxP, exBox, exAlloc, exLoad, exStore, exFieldA, exIdxA, exLen, exPick, exUn, exBeq, exMM, exSeq, seqGo, exExt, binV, intOp, subc, AV.solid, S0, encI, encB, e3, e4, e5, e7, e8, e9, g0, g1, g2, gq]
    refine CallR.pure hba (cl_cons (cW b) (cl_cons (cW a) cl_nil)) (closed_B _) ?_
    simp [AW_seq, AW_reg, AW_regD, AW_block, AW_cond, AW_skip, AW_exit, AW_ret, AW_scp, condR_true, condR_false, AThen_normal, AThen_ret, AThen_exit, ABlock_normal, ABlock_ret, ABlock_exit, AScope_normal, AScope_ret, AScope_exit, RetK_ret, RetK_normal, retAV_one, retAV_two, retAV_three, retAV_nil, RG_nil, RG_op, RG_guard, gdR_tt, gdR_ff, gdR_tf, gdR_ft, gdR_un, RG_call, callQ_clo, contK_ap, opR_some, RD_nil, RD_op0, RD_op1, opD0_some, opD1_some, RD_call, callQD_clo, RD_guard, gdD_tt, gdD_ff, gdD_tf, gdD_ft, gdD_un, psh_nil, psh_cons, Apt_nil, Apt_nilT, Apt_true, Apt_false, Dis_def, runT_val, runT_rd, runT_wr, runT_new, runT_mv, ex, put_some, put_none, ev_t, ev_c, argF_zero, argF_succ, set_g, set_n, cells_v, cells_sl, cells_agg, cells_own, cells_ptr, cells_clo, cells_eptr, cells_mp, putc, exBslice, lfill, exField, exIdxV, exIdxP, exBox, exAlloc, exLoad, exStore, exFieldA, exIdxA, exLen, exPick, exUn, exBeq, exMM, exSeq, seqGo, exExt, binV, intOp, subc, AV.solid, S0, encI, encB, e3, e4, e5, e7, e8, e9, g0, g1, g2, gq]
    refine CallR.pure hab (cl_cons (cW a) (cl_cons (cW b) cl_nil)) (closed_B _) ?_
    simp [AW_seq, AW_reg, AW_regD, AW_block, AW_cond, AW_skip, AW_exit, AW_ret, AW_scp, condR_true, condR_false, AThen_normal, AThen_ret, AThen_exit, ABlock_normal, ABlock_ret, ABlock_exit, AScope_normal, AScope_ret, AScope_exit, RetK_ret, RetK_normal, retAV_one, retAV_two, retAV_three, retAV_nil, RG_nil, RG_op, RG_guard, gdR_tt, gdR_ff, gdR_tf, gdR_ft, gdR_un, RG_call, callQ_clo, contK_ap, opR_some, RD_nil, RD_op0, RD_op1, opD0_some, opD1_some, RD_call, callQD_clo, RD_guard, gdD_tt, gdD_ff, gdD_tf, gdD_ft, gdD_un, psh_nil, psh_cons, Apt_nil, Apt_nilT, Apt_true, Apt_false, Dis_def, runT_val, runT_rd, runT_wr, runT_new, runT_mv, ex, put_some, put_none, ev_t, ev_c, argF_zero, argF_succ, set_g, set_n, cells_v, cells_sl, cells_agg, cells_own, cells_ptr, cells_clo, cells_eptr, cells_mp, putc, exBslice, lfill, exField, exIdxV, exIdxP, exBox, exAlloc, exLoad, exStore, exFieldA, exIdxA, exLen, exPick, exUn, exBeq, exMM, exSeq, seqGo, exExt, binV, intOp, subc, AV.solid, S0, encI, encB, e3, e4, e5, e7, e8, e9, g0, g1, g2, gq]
    refine CallR.pure hbc (cl_cons (cW b) (cl_cons (cW c) cl_nil)) (closed_B _) ?_
    cases pbc with
    | false =>
      simp [AW_seq, AW_reg, AW_regD, AW_block, AW_cond, AW_skip, AW_exit, AW_ret, AW_scp, condR_true, condR_false, AThen_normal, AThen_ret, AThen_exit, ABlock_normal, ABlock_ret, ABlock_exit, AScope_normal, AScope_ret, AScope_exit, RetK_ret, RetK_normal, retAV_one, retAV_two, retAV_three, retAV_nil, RG_nil, RG_op, RG_guard, gdR_tt, gdR_ff, gdR_tf, gdR_ft, gdR_un, RG_call, callQ_clo, contK_ap, opR_some, RD_nil, RD_op0, RD_op1, opD0_some, opD1_some, RD_call, callQD_clo, RD_guard, gdD_tt, gdD_ff, gdD_tf, gdD_ft, gdD_un, psh_nil, psh_cons, Apt_nil, Apt_nilT, Apt_true, Apt_false, Dis_def, runT_val, runT_rd, runT_wr, runT_new, runT_mv, ex, put_some, put_none, ev_t, ev_c, argF_zero, argF_succ, set_g, set_n, cells_v, cells_sl, cells_agg, cells_own, cells_ptr, cells_clo, cells_eptr, cells_mp, putc, exBslice, lfill, exField, exIdxV, exIdxP, exBox, exAlloc, exLoad, exStore, exFieldA, exIdxA, exLen, exPick, exUn, exBeq, exMM, exSeq, seqGo, exExt, binV, intOp, subc, AV.solid, S0, encI, encB, e3, e4, e5, e7, e8, e9, g0, g1, g2, gq]
      exact FzK_B true _
    | true =>
      simp [AW_seq, AW_reg, AW_regD, AW_block, AW_cond, AW_skip, AW_exit, AW_ret, AW_scp, condR_true, condR_false, AThen_normal, AThen_ret, AThen_exit, ABlock_normal, ABlock_ret, ABlock_exit, AScope_normal, AScope_ret, AScope_exit, RetK_ret, RetK_normal, retAV_one, retAV_two, retAV_three, retAV_nil, RG_nil, RG_op, RG_guard, gdR_tt, gdR_ff, gdR_tf, gdR_ft, gdR_un, RG_call, callQ_clo, contK_ap, opR_some, RD_nil, RD_op0, RD_op1, opD0_some, opD1_some, RD_call, callQD_clo, RD_guard, gdD_tt, gdD_ff, gdD_tf, gdD_ft, gdD_un, psh_nil, psh_cons, Apt_nil, Apt_nilT, Apt_true, Apt_false, Dis_def, runT_val, runT_rd, runT_wr, runT_new, runT_mv, ex, put_some, put_none, ev_t, ev_c, argF_zero, argF_succ, set_g, set_n, cells_v, cells_sl, cells_agg, cells_own, cells_ptr, cells_clo, cells_eptr, cells_mp, putc, exBslice, lfill, exField, exIdxV, exIdxP, exBox, exAlloc, exLoad, exStore, exFieldA, exIdxA, exLen, exPick, exUn, exBeq, exMM, exSeq, seqGo, exExt, binV, intOp, subc, AV.solid, S0, encI, encB, e3, e4, e5, e7, e8, e9, g0, g1, g2, gq]
      refine CallR.pure hac (cl_cons (cW a) (cl_cons (cW c) cl_nil)) (closed_B _) ?_
      have hz : pac = true := by revert l3; cases pac <;> simp
      subst hz
      simp [AW_seq, AW_reg, AW_regD, AW_block, AW_cond, AW_skip, AW_exit, AW_ret, AW_scp, condR_true, condR_false, AThen_normal, AThen_ret, AThen_exit, ABlock_normal, ABlock_ret, ABlock_exit, AScope_normal, AScope_ret, AScope_exit, RetK_ret, RetK_normal, retAV_one, retAV_two, retAV_three, retAV_nil, RG_nil, RG_op, RG_guard, gdR_tt, gdR_ff, gdR_tf, gdR_ft, gdR_un, RG_call, callQ_clo, contK_ap, opR_some, RD_nil, RD_op0, RD_op1, opD0_some, opD1_some, RD_call, callQD_clo, RD_guard, gdD_tt, gdD_ff, gdD_tf, gdD_ft, gdD_un, psh_nil, psh_cons, Apt_nil, Apt_nilT, Apt_true, Apt_false, Dis_def, runT_val, runT_rd, runT_wr, runT_new, runT_mv, ex, put_some, put_none, ev_t, ev_c, argF_zero, argF_succ, set_g, set_n, cells_v, cells_sl, cells_agg, cells_own, cells_ptr, cells_clo, cells_eptr, cells_mp, putc, exBslice, lfill, exField, exIdxV, exIdxP, exBox, exAlloc, exLoad, exStore, exFieldA, exIdxA, exLen, exPick, exUn, exBeq, exMM, exSeq, seqGo, exExt, binV, intOp, subc, AV.solid, S0, encI, encB, e3, e4, e5, e7, e8, e9, g0, g1, g2, gq]
      exact FzK_B true _
  | false =>
    simp [AW_seq, AW_reg, AW_regD, AW_block, AW_cond, AW_skip, AW_exit, AW_ret, AW_scp, condR_true, condR_false, AThen_normal, AThen_ret, AThen_exit, ABlock_normal, ABlock_ret, ABlock_exit, AScope_normal, AScope_ret, AScope_exit, RetK_ret, RetK_normal, retAV_one, retAV_two, retAV_three, retAV_nil, RG_nil, RG_op, RG_guard, gdR_tt, gdR_ff, gdR_tf, gdR_ft, gdR_un, RG_call, callQ_clo, contK_ap, opR_some, RD_nil, RD_op0, RD_op1, opD0_some, opD1_some, RD_call, callQD_clo, RD_guard, gdD_tt, gdD_ff, gdD_tf, gdD_ft, gdD_un, psh_nil, psh_cons, Apt_nil, Apt_nilT, Apt_true, Apt_false, Dis_def, runT_val, runT_rd, runT_wr, runT_new, runT_mv, ex, put_some, put_none, ev_t, ev_c, argF_zero, argF_succ, set_g, set_n, cells_v, cells_sl, cells_agg, cells_own, cells_ptr, cells_clo, cells_eptr, cells_mp, putc, exBslice, lfill, exField, exIdxV, exIdxP, exBox, exAlloc, exLoad, exStore, exFieldA, exIdxA, exLen, exPick, exUn, exBeq, exMM, exSeq, seqGo, exExt, binV, intOp, subc, AV.solid, S0, encI, encB, e3, e4, e5, e7, e8, e9, g0, g1, g2, gq]
    refine CallR.pure hba (cl_cons (cW b) (cl_cons (cW a) cl_nil)) (closed_B _) ?_
    have hs : same = !pba := by revert l1; cases same <;> cases pba <;> simp
    subst hs
    cases pba with
    | true =>
      simp [AW_seq, AW_reg, AW_regD, AW_block, AW_cond, AW_skip, AW_exit, AW_ret, AW_scp, condR_true, condR_false, AThen_normal, AThen_ret, AThen_exit, ABlock_normal, ABlock_ret, ABlock_exit, AScope_normal, AScope_ret, AScope_exit, RetK_ret, RetK_normal, retAV_one, retAV_two, retAV_three, retAV_nil, RG_nil, RG_op, RG_guard, gdR_tt, gdR_ff, gdR_tf, gdR_ft, gdR_un, RG_call, callQ_clo, contK_ap, opR_some, RD_nil, RD_op0, RD_op1, opD0_some, opD1_some, RD_call, callQD_clo, RD_guard, gdD_tt, gdD_ff, gdD_tf, gdD_ft, gdD_un, psh_nil, psh_cons, Apt_nil, Apt_nilT, Apt_true, Apt_false, Dis_def, runT_val, runT_rd, runT_wr, runT_new, runT_mv, ex, put_some, put_none, ev_t, ev_c, argF_zero, argF_succ, set_g, set_n, cells_v, cells_sl, cells_agg, cells_own, cells_ptr, cells_clo, cells_eptr, cells_mp, putc, exBslice, lfill, exField, exIdxV, exIdxP, exBox, exAlloc, exLoad, exStore, exFieldA, exIdxA, exLen, exPick, exUn, exBeq, exMM, exSeq, seqGo, exExt, binV, intOp, subc, AV.solid, S0, encI, encB, e3, e4, e5, e7, e8, e9, g0, g1, g2, gq]
      refine CallR.pure hab (cl_cons (cW a) (cl_cons (cW b) cl_nil)) (closed_B _) ?_
      simp [AW_seq, AW_reg, AW_regD, AW_block, AW_cond, AW_skip, AW_exit, AW_ret, AW_scp, condR_true, condR_false, AThen_normal, AThen_ret, AThen_exit, ABlock_normal, ABlock_ret, ABlock_exit, AScope_normal, AScope_ret, AScope_exit, RetK_ret, RetK_normal, retAV_one, retAV_two, retAV_three, retAV_nil, RG_nil, RG_op, RG_guard, gdR_tt, gdR_ff, gdR_tf, gdR_ft, gdR_un, RG_call, callQ_clo, contK_ap, opR_some, RD_nil, RD_op0, RD_op1, opD0_some, opD1_some, RD_call, callQD_clo, RD_guard, gdD_tt, gdD_ff, gdD_tf, gdD_ft, gdD_un, psh_nil, psh_cons, Apt_nil, Apt_nilT, Apt_true, Apt_false, Dis_def, runT_val, runT_rd, runT_wr, runT_new, runT_mv, ex, put_some, put_none, ev_t, ev_c, argF_zero, argF_succ, set_g, set_n, cells_v, cells_sl, cells_agg, cells_own, cells_ptr, cells_clo, cells_eptr, cells_mp, putc, exBslice, lfill, exField, exIdxV, exIdxP, exBox, exAlloc, exLoad, exStore, exFieldA, exIdxA, exLen, exPick, exUn, exBeq, exMM, exSeq, seqGo, exExt, binV, intOp, subc, AV.solid, S0, encI, encB, e3, e4, e5, e7, e8, e9, g0, g1, g2, gq]
      refine CallR.pure hab (cl_cons (cW a) (cl_cons (cW b) cl_nil)) (closed_B _) ?_
      simp [AW_seq, AW_reg, AW_regD, AW_block, AW_cond, AW_skip, AW_exit, AW_ret, AW_scp, condR_true, condR_false, AThen_normal, AThen_ret, AThen_exit, ABlock_normal, ABlock_ret, ABlock_exit, AScope_normal, AScope_ret, AScope_exit, RetK_ret, RetK_normal, retAV_one, retAV_two, retAV_three, retAV_nil, RG_nil, RG_op, RG_guard, gdR_tt, gdR_ff, gdR_tf, gdR_ft, gdR_un, RG_call, callQ_clo, contK_ap, opR_some, RD_nil, RD_op0, RD_op1, opD0_some, opD1_some, RD_call, callQD_clo, RD_guard, gdD_tt, gdD_ff, gdD_tf, gdD_ft, gdD_un, psh_nil, psh_cons, Apt_nil, Apt_nilT, Apt_true, Apt_false, Dis_def, runT_val, runT_rd, runT_wr, runT_new, runT_mv, ex, put_some, put_none, ev_t, ev_c, argF_zero, argF_succ, set_g, set_n, cells_v, cells_sl, cells_agg, cells_own, cells_ptr, cells_clo, cells_eptr, cells_mp, putc, exBslice, lfill, exField, exIdxV, exIdxP, exBox, exAlloc, exLoad, exStore, exFieldA, exIdxA, exLen, exPick, exUn, exBeq, exMM, exSeq, seqGo, exExt, binV, intOp, subc, AV.solid, S0, encI, encB, e3, e4, e5, e7, e8, e9, g0, g1, g2, gq]
      exact FzK_B true _
    | false =>
      simp [AW_seq, AW_reg, AW_regD, AW_block, AW_cond, AW_skip, AW_exit, AW_ret, AW_scp, condR_true, condR_false, AThen_normal, AThen_ret, AThen_exit, ABlock_normal, ABlock_ret, ABlock_exit, AScope_normal, AScope_ret, AScope_exit, RetK_ret, RetK_normal, retAV_one, retAV_two, retAV_three, retAV_nil, RG_nil, RG_op, RG_guard, gdR_tt, gdR_ff, gdR_tf, gdR_ft, gdR_un, RG_call, callQ_clo, contK_ap, opR_some, RD_nil, RD_op0, RD_op1, opD0_some, opD1_some, RD_call, callQD_clo, RD_guard, gdD_tt, gdD_ff, gdD_tf, gdD_ft, gdD_un, psh_nil, psh_cons, Apt_nil, Apt_nilT, Apt_true, Apt_false, Dis_def, runT_val, runT_rd, runT_wr, runT_new, runT_mv, ex, put_some, put_none, ev_t, ev_c, argF_zero, argF_succ, set_g, set_n, cells_v, cells_sl, cells_agg, cells_own, cells_ptr, cells_clo, cells_eptr, cells_mp, putc, exBslice, lfill, exField, exIdxV, exIdxP, exBox, exAlloc, exLoad, exStore, exFieldA, exIdxA, exLen, exPick, exUn, exBeq, exMM, exSeq, seqGo, exExt, binV, intOp, subc, AV.solid, S0, encI, encB, e3, e4, e5, e7, e8, e9, g0, g1, g2, gq]
      refine CallR.pure hab (cl_cons (cW a) (cl_cons (cW b) cl_nil)) (closed_B _) ?_
      simp [AW_seq, AW_reg, AW_regD, AW_block, AW_cond, AW_skip, AW_exit, AW_ret, AW_scp, condR_true, condR_false, AThen_normal, AThen_ret, AThen_exit, ABlock_normal, ABlock_ret, ABlock_exit, AScope_normal, AScope_ret, AScope_exit, RetK_ret, RetK_normal, retAV_one, retAV_two, retAV_three, retAV_nil, RG_nil, RG_op, RG_guard, gdR_tt, gdR_ff, gdR_tf, gdR_ft, gdR_un, RG_call, callQ_clo, contK_ap, opR_some, RD_nil, RD_op0, RD_op1, opD0_some, opD1_some, RD_call, callQD_clo, RD_guard, gdD_tt, gdD_ff, gdD_tf, gdD_ft, gdD_un, psh_nil, psh_cons, Apt_nil, Apt_nilT, Apt_true, Apt_false, Dis_def, runT_val, runT_rd, runT_wr, runT_new, runT_mv, ex, put_some, put_none, ev_t, ev_c, argF_zero, argF_succ, set_g, set_n, cells_v, cells_sl, cells_agg, cells_own, cells_ptr, cells_clo, cells_eptr, cells_mp, putc, exBslice, lfill, exField, exIdxV, exIdxP, exBox, exAlloc, exLoad, exStore, exFieldA, exIdxA, exLen, exPick, exUn, exBeq, exMM, exSeq, seqGo, exExt, binV, intOp, subc, AV.solid, S0, encI, encB, e3, e4, e5, e7, e8, e9, g0, g1, g2, gq]
      refine CallR.pure hab (cl_cons (cW a) (cl_cons (cW b) cl_nil)) (closed_B _) ?_
      simp [AW_seq, AW_reg, AW_regD, AW_block, AW_cond, AW_skip, AW_exit, AW_ret, AW_scp, condR_true, condR_false, AThen_normal, AThen_ret, AThen_exit, ABlock_normal, ABlock_ret, ABlock_exit, AScope_normal, AScope_ret, AScope_exit, RetK_ret, RetK_normal, retAV_one, retAV_two, retAV_three, retAV_nil, RG_nil, RG_op, RG_guard, gdR_tt, gdR_ff, gdR_tf, gdR_ft, gdR_un, RG_call, callQ_clo, contK_ap, opR_some, RD_nil, RD_op0, RD_op1, opD0_some, opD1_some, RD_call, callQD_clo, RD_guard, gdD_tt, gdD_ff, gdD_tf, gdD_ft, gdD_un, psh_nil, psh_cons, Apt_nil, Apt_nilT, Apt_true, Apt_false, Dis_def, runT_val, runT_rd, runT_wr, runT_new, runT_mv, ex, put_some, put_none, ev_t, ev_c, argF_zero, argF_succ, set_g, set_n, cells_v, cells_sl, cells_agg, cells_own, cells_ptr, cells_clo, cells_eptr, cells_mp, putc, exBslice, lfill, exField, exIdxV, exIdxP, exBox, exAlloc, exLoad, exStore, exFieldA, exIdxA, exLen, exPick, exUn, exBeq, exMM, exSeq, seqGo, exExt, binV, intOp, subc, AV.solid, S0, encI, encB, e3, e4, e5, e7, e8, e9, g0, g1, g2, gq]
      exact FzK_B true _
theorem WitOrder_body {P : Program} {fa fi fl fb : FuncId} (a b c : Wit) (hal : PureC P fa [] (encB true)) (hi : ∀ a b, Len a → Len b → PureC P fi [encIs a, encIs b] (encB (a == b)))
    (hl : ∀ l : List Wit, l ≠ [] → l.length ≤ 1000 → (∀ w ∈ l, Len w.text) → PureC P fl [.sl true (l.map encW)] (.tup [encW (minW (l.headD ⟨[], 0⟩) (l.drop 1)), encB true]))
    (hb : ∀ a b : Wit, Len a.text → Len b.text → PureC P fb [encW a, encW b] (encB (beforeW a b))) :
    AW P (c_caesuralaw23_WitOrder fa fi fl fb) (RetK [6] (FzK (encB true))) (argF [encW a, encW b, encW c]) S0 := by
  have cW := closed_W
  simp [AW_seq, AW_reg, AW_regD, AW_block, AW_cond, AW_skip, AW_exit, AW_ret, AW_scp, condR_true, condR_false, AThen_normal, AThen_ret, AThen_exit, ABlock_normal, ABlock_ret, ABlock_exit, AScope_normal, AScope_ret, AScope_exit, RetK_ret, RetK_normal, retAV_one, retAV_two, retAV_three, retAV_nil, RG_nil, RG_op, RG_guard, gdR_tt, gdR_ff, gdR_tf, gdR_ft, gdR_un, RG_call, callQ_clo, contK_ap, opR_some, RD_nil, RD_op0, RD_op1, opD0_some, opD1_some, RD_call, callQD_clo, RD_guard, gdD_tt, gdD_ff, gdD_tf, gdD_ft, gdD_un, psh_nil, psh_cons, Apt_nil, Apt_nilT, Apt_true, Apt_false, Dis_def, runT_val, runT_rd, runT_wr, runT_new, runT_mv, ex, put_some, put_none, ev_t, ev_c, argF_zero, argF_succ, set_g, set_n, cells_v, cells_sl, cells_agg, cells_own, cells_ptr, cells_clo, cells_eptr, cells_mp, putc, exBslice, lfill, exField, exIdxV, exIdxP, exBox, exAlloc, exLoad, exStore, exFieldA, exIdxA, exLen, exPick, exUn, exBeq, exMM, exSeq, seqGo, exExt, binV, intOp, subc, AV.solid, S0, encI, encB, c_caesuralaw23_WitOrder, encW]
  refine CallR.pure hal cl_nil (closed_B _) ?_
  by_cases ha : 300 < a.text.length
  · have ha' : (300 : Int) < a.text.length := by omega
    simp [AW_seq, AW_reg, AW_regD, AW_block, AW_cond, AW_skip, AW_exit, AW_ret, AW_scp, condR_true, condR_false, AThen_normal, AThen_ret, AThen_exit, ABlock_normal, ABlock_ret, ABlock_exit, AScope_normal, AScope_ret, AScope_exit, RetK_ret, RetK_normal, retAV_one, retAV_two, retAV_three, retAV_nil, RG_nil, RG_op, RG_guard, gdR_tt, gdR_ff, gdR_tf, gdR_ft, gdR_un, RG_call, callQ_clo, contK_ap, opR_some, RD_nil, RD_op0, RD_op1, opD0_some, opD1_some, RD_call, callQD_clo, RD_guard, gdD_tt, gdD_ff, gdD_tf, gdD_ft, gdD_un, psh_nil, psh_cons, Apt_nil, Apt_nilT, Apt_true, Apt_false, Dis_def, runT_val, runT_rd, runT_wr, runT_new, runT_mv, ex, put_some, put_none, ev_t, ev_c, argF_zero, argF_succ, set_g, set_n, cells_v, cells_sl, cells_agg, cells_own, cells_ptr, cells_clo, cells_eptr, cells_mp, putc, exBslice, lfill, exField, exIdxV, exIdxP, exBox, exAlloc, exLoad, exStore, exFieldA, exIdxA, exLen, exPick, exUn, exBeq, exMM, exSeq, seqGo, exExt, binV, intOp, subc, AV.solid, S0, encI, encB, ha, ha', encIs]
    exact FzK_B true _
  · have ha' : ¬ (300 : Int) < a.text.length := by omega
    by_cases hbl : 300 < b.text.length
    · have hb' : (300 : Int) < b.text.length := by omega
      simp [AW_seq, AW_reg, AW_regD, AW_block, AW_cond, AW_skip, AW_exit, AW_ret, AW_scp, condR_true, condR_false, AThen_normal, AThen_ret, AThen_exit, ABlock_normal, ABlock_ret, ABlock_exit, AScope_normal, AScope_ret, AScope_exit, RetK_ret, RetK_normal, retAV_one, retAV_two, retAV_three, retAV_nil, RG_nil, RG_op, RG_guard, gdR_tt, gdR_ff, gdR_tf, gdR_ft, gdR_un, RG_call, callQ_clo, contK_ap, opR_some, RD_nil, RD_op0, RD_op1, opD0_some, opD1_some, RD_call, callQD_clo, RD_guard, gdD_tt, gdD_ff, gdD_tf, gdD_ft, gdD_un, psh_nil, psh_cons, Apt_nil, Apt_nilT, Apt_true, Apt_false, Dis_def, runT_val, runT_rd, runT_wr, runT_new, runT_mv, ex, put_some, put_none, ev_t, ev_c, argF_zero, argF_succ, set_g, set_n, cells_v, cells_sl, cells_agg, cells_own, cells_ptr, cells_clo, cells_eptr, cells_mp, putc, exBslice, lfill, exField, exIdxV, exIdxP, exBox, exAlloc, exLoad, exStore, exFieldA, exIdxA, exLen, exPick, exUn, exBeq, exMM, exSeq, seqGo, exExt, binV, intOp, subc, AV.solid, S0, encI, encB, ha, ha', hbl, hb', encIs]
      exact FzK_B true _
    · have hb' : ¬ (300 : Int) < b.text.length := by omega
      by_cases hcl : 300 < c.text.length
      · have hc' : (300 : Int) < c.text.length := by omega
        simp [AW_seq, AW_reg, AW_regD, AW_block, AW_cond, AW_skip, AW_exit, AW_ret, AW_scp, condR_true, condR_false, AThen_normal, AThen_ret, AThen_exit, ABlock_normal, ABlock_ret, ABlock_exit, AScope_normal, AScope_ret, AScope_exit, RetK_ret, RetK_normal, retAV_one, retAV_two, retAV_three, retAV_nil, RG_nil, RG_op, RG_guard, gdR_tt, gdR_ff, gdR_tf, gdR_ft, gdR_un, RG_call, callQ_clo, contK_ap, opR_some, RD_nil, RD_op0, RD_op1, opD0_some, opD1_some, RD_call, callQD_clo, RD_guard, gdD_tt, gdD_ff, gdD_tf, gdD_ft, gdD_un, psh_nil, psh_cons, Apt_nil, Apt_nilT, Apt_true, Apt_false, Dis_def, runT_val, runT_rd, runT_wr, runT_new, runT_mv, ex, put_some, put_none, ev_t, ev_c, argF_zero, argF_succ, set_g, set_n, cells_v, cells_sl, cells_agg, cells_own, cells_ptr, cells_clo, cells_eptr, cells_mp, putc, exBslice, lfill, exField, exIdxV, exIdxP, exBox, exAlloc, exLoad, exStore, exFieldA, exIdxA, exLen, exPick, exUn, exBeq, exMM, exSeq, seqGo, exExt, binV, intOp, subc, AV.solid, S0, encI, encB, ha, ha', hbl, hb', hcl, hc', encIs]
        exact FzK_B true _
      · have hc' : ¬ (300 : Int) < c.text.length := by omega
        have la : Len a.text := by unfold Len; omega
        have lb : Len b.text := by unfold Len; omega
        have lc : Len c.text := by unfold Len; omega
        simp [AW_seq, AW_reg, AW_regD, AW_block, AW_cond, AW_skip, AW_exit, AW_ret, AW_scp, condR_true, condR_false, AThen_normal, AThen_ret, AThen_exit, ABlock_normal, ABlock_ret, ABlock_exit, AScope_normal, AScope_ret, AScope_exit, RetK_ret, RetK_normal, retAV_one, retAV_two, retAV_three, retAV_nil, RG_nil, RG_op, RG_guard, gdR_tt, gdR_ff, gdR_tf, gdR_ft, gdR_un, RG_call, callQ_clo, contK_ap, opR_some, RD_nil, RD_op0, RD_op1, opD0_some, opD1_some, RD_call, callQD_clo, RD_guard, gdD_tt, gdD_ff, gdD_tf, gdD_ft, gdD_un, psh_nil, psh_cons, Apt_nil, Apt_nilT, Apt_true, Apt_false, Dis_def, runT_val, runT_rd, runT_wr, runT_new, runT_mv, ex, put_some, put_none, ev_t, ev_c, argF_zero, argF_succ, set_g, set_n, cells_v, cells_sl, cells_agg, cells_own, cells_ptr, cells_clo, cells_eptr, cells_mp, putc, exBslice, lfill, exField, exIdxV, exIdxP, exBox, exAlloc, exLoad, exStore, exFieldA, exIdxA, exLen, exPick, exUn, exBeq, exMM, exSeq, seqGo, exExt, binV, intOp, subc, AV.solid, S0, encI, encB, ha, ha', hbl, hb', hcl, hc', encIs]
        refine CallR.pure (hi a.text b.text la lb) (cl_cons (closed_Is _) (cl_cons (closed_Is _) cl_nil)) (closed_B _) ?_
        have hml := hl [a, b, c] (by simp) (by simp) (by simp [la, lb, lc])
        have cm : Closed (.tup [encW (minW a [b, c]), encB true]) := .tup _ (cl_cons (cW _) (cl_cons (closed_B _) cl_nil))
        have clst : Closed (.sl true ([a, b, c].map encW)) := closed_map closed_W _
        simp only [List.headD_cons, List.drop_succ_cons, List.drop_zero] at hml
        obtain ⟨m, hm⟩ : ∃ m, minW a [b, c] = m := ⟨_, rfl⟩
        rw [hm] at hml cm
        have eW : ∀ w : Wit, encW w = .agg [encIs w.text, .v (.int .i64 w.place)] := fun _ => rfl
        rw [eW m] at hml cm
        by_cases ht : a.text = b.text
        · have ht' : (a.text == b.text) = true := by simp [ht]
          simp [AW_seq, AW_reg, AW_regD, AW_block, AW_cond, AW_skip, AW_exit, AW_ret, AW_scp, condR_true, condR_false, AThen_normal, AThen_ret, AThen_exit, ABlock_normal, ABlock_ret, ABlock_exit, AScope_normal, AScope_ret, AScope_exit, RetK_ret, RetK_normal, retAV_one, retAV_two, retAV_three, retAV_nil, RG_nil, RG_op, RG_guard, gdR_tt, gdR_ff, gdR_tf, gdR_ft, gdR_un, RG_call, callQ_clo, contK_ap, opR_some, RD_nil, RD_op0, RD_op1, opD0_some, opD1_some, RD_call, callQD_clo, RD_guard, gdD_tt, gdD_ff, gdD_tf, gdD_ft, gdD_un, psh_nil, psh_cons, Apt_nil, Apt_nilT, Apt_true, Apt_false, Dis_def, runT_val, runT_rd, runT_wr, runT_new, runT_mv, ex, put_some, put_none, ev_t, ev_c, argF_zero, argF_succ, set_g, set_n, cells_v, cells_sl, cells_agg, cells_own, cells_ptr, cells_clo, cells_eptr, cells_mp, putc, exBslice, lfill, exField, exIdxV, exIdxP, exBox, exAlloc, exLoad, exStore, exFieldA, exIdxA, exLen, exPick, exUn, exBeq, exMM, exSeq, seqGo, exExt, binV, intOp, subc, AV.solid, S0, encI, encB, ht']
          refine CallR.pure hml (cl_cons clst cl_nil) cm ?_
          simp [AW_seq, AW_reg, AW_regD, AW_block, AW_cond, AW_skip, AW_exit, AW_ret, AW_scp, condR_true, condR_false, AThen_normal, AThen_ret, AThen_exit, ABlock_normal, ABlock_ret, ABlock_exit, AScope_normal, AScope_ret, AScope_exit, RetK_ret, RetK_normal, retAV_one, retAV_two, retAV_three, retAV_nil, RG_nil, RG_op, RG_guard, gdR_tt, gdR_ff, gdR_tf, gdR_ft, gdR_un, RG_call, callQ_clo, contK_ap, opR_some, RD_nil, RD_op0, RD_op1, opD0_some, opD1_some, RD_call, callQD_clo, RD_guard, gdD_tt, gdD_ff, gdD_tf, gdD_ft, gdD_un, psh_nil, psh_cons, Apt_nil, Apt_nilT, Apt_true, Apt_false, Dis_def, runT_val, runT_rd, runT_wr, runT_new, runT_mv, ex, put_some, put_none, ev_t, ev_c, argF_zero, argF_succ, set_g, set_n, cells_v, cells_sl, cells_agg, cells_own, cells_ptr, cells_clo, cells_eptr, cells_mp, putc, exBslice, lfill, exField, exIdxV, exIdxP, exBox, exAlloc, exLoad, exStore, exFieldA, exIdxA, exLen, exPick, exUn, exBeq, exMM, exSeq, seqGo, exExt, binV, intOp, subc, AV.solid, S0, encI, encB]
          refine wo_tail (a := a) (b := b) (c := c) (m := m) (q := 43) hb la lb lc hm ?_ ?_ ?_ ?_ ?_ ?_ ?_ ?_ ?_ ?_ <;> simp [put_some, argF_zero, argF_succ, encI, encB, encW, encIs, set_g, ht']
        · have ht' : (a.text == b.text) = false := by simp [ht]
          simp [AW_seq, AW_reg, AW_regD, AW_block, AW_cond, AW_skip, AW_exit, AW_ret, AW_scp, condR_true, condR_false, AThen_normal, AThen_ret, AThen_exit, ABlock_normal, ABlock_ret, ABlock_exit, AScope_normal, AScope_ret, AScope_exit, RetK_ret, RetK_normal, retAV_one, retAV_two, retAV_three, retAV_nil, RG_nil, RG_op, RG_guard, gdR_tt, gdR_ff, gdR_tf, gdR_ft, gdR_un, RG_call, callQ_clo, contK_ap, opR_some, RD_nil, RD_op0, RD_op1, opD0_some, opD1_some, RD_call, callQD_clo, RD_guard, gdD_tt, gdD_ff, gdD_tf, gdD_ft, gdD_un, psh_nil, psh_cons, Apt_nil, Apt_nilT, Apt_true, Apt_false, Dis_def, runT_val, runT_rd, runT_wr, runT_new, runT_mv, ex, put_some, put_none, ev_t, ev_c, argF_zero, argF_succ, set_g, set_n, cells_v, cells_sl, cells_agg, cells_own, cells_ptr, cells_clo, cells_eptr, cells_mp, putc, exBslice, lfill, exField, exIdxV, exIdxP, exBox, exAlloc, exLoad, exStore, exFieldA, exIdxA, exLen, exPick, exUn, exBeq, exMM, exSeq, seqGo, exExt, binV, intOp, subc, AV.solid, S0, encI, encB, ht']
          refine CallR.pure hml (cl_cons clst cl_nil) cm ?_
          simp [AW_seq, AW_reg, AW_regD, AW_block, AW_cond, AW_skip, AW_exit, AW_ret, AW_scp, condR_true, condR_false, AThen_normal, AThen_ret, AThen_exit, ABlock_normal, ABlock_ret, ABlock_exit, AScope_normal, AScope_ret, AScope_exit, RetK_ret, RetK_normal, retAV_one, retAV_two, retAV_three, retAV_nil, RG_nil, RG_op, RG_guard, gdR_tt, gdR_ff, gdR_tf, gdR_ft, gdR_un, RG_call, callQ_clo, contK_ap, opR_some, RD_nil, RD_op0, RD_op1, opD0_some, opD1_some, RD_call, callQD_clo, RD_guard, gdD_tt, gdD_ff, gdD_tf, gdD_ft, gdD_un, psh_nil, psh_cons, Apt_nil, Apt_nilT, Apt_true, Apt_false, Dis_def, runT_val, runT_rd, runT_wr, runT_new, runT_mv, ex, put_some, put_none, ev_t, ev_c, argF_zero, argF_succ, set_g, set_n, cells_v, cells_sl, cells_agg, cells_own, cells_ptr, cells_clo, cells_eptr, cells_mp, putc, exBslice, lfill, exField, exIdxV, exIdxP, exBox, exAlloc, exLoad, exStore, exFieldA, exIdxA, exLen, exPick, exUn, exBeq, exMM, exSeq, seqGo, exExt, binV, intOp, subc, AV.solid, S0, encI, encB]
          refine wo_tail (a := a) (b := b) (c := c) (m := m) (q := 43) hb la lb lc hm ?_ ?_ ?_ ?_ ?_ ?_ ?_ ?_ ?_ ?_ <;> simp [put_some, argF_zero, argF_succ, encI, encB, encW, encIs, set_g, ht']
end Go.Rf
