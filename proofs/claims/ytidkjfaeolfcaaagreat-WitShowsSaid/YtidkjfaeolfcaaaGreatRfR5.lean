import Derived.Test.YtidkjfaeolfcaaaGreatRfR4
import Derived.Test.YtidkjfaeolfcaaaGreatRfKl
/- Own work: up to where a form matches, told: any form. -/
set_option linter.unusedVariables false
set_option linter.unusedSimpArgs false
namespace Go.Rf
open Go.RowKit

def c_fr_or (f_reach_walker_from : FuncId) : AC :=
  (.block 1 (.loop (.seq (.reg none [
          ⟨(some 52), .bin .lss (.t 51) (.t 50), none, none⟩])
         (.seq (.cond (.t 52) .skip (.exit 1))
         (.seq (.block 2 (.seq (.reg none [
           ⟨(some 53), .idxA 4 (.t 49) (.t 51), none, none⟩,
           ⟨(some 54), .load (some 4) (.t 53), none, none⟩,
           ⟨(some 9), .alloc (.agg [(.v (.int .i64 0)), (.sl true []), (.sl true []), (.sl true [])]) 4, none, none⟩,
           ⟨none, .store 4 (.t 9) (.t 54), none, none⟩])
          (.reg none [
           ⟨(some 55), .load (some 1) (.t 4), none, none⟩,
           ⟨(some 56), .load (some 4) (.t 9), none, none⟩,
           ⟨(some 57), .mv (.t 2), none, none⟩,
           ⟨(some 58), .mv (.t 3), none, none⟩,
           ⟨(some 59), .mv (.c .junk), none, (some ((.c (.clo f_reach_walker_from [] [])), [(.t 55), (.t 56), (.t 57), (.t 58)]))⟩])))
         (.reg none [
          ⟨(some 60), .bin .add (.t 51) (.c (.v (.int .i64 1))), none, none⟩,
          ⟨(some 51), .mv (.t 60), none, none⟩]))))))
def c_reach_walker_from (f_slices_Contains_Sint_int_ f_reach_walker_all f_reach_walker_from f_reach_walker_again : FuncId) : AC :=
  (.seq (.reg none [
   ⟨(some 4), .box 1 (.t 0), none, none⟩,
   ⟨(some 5), .box 4 (.t 1), none, none⟩])
  (.seq (.reg none [
   ⟨(some 10), .fieldA 0 (.t 5), none, none⟩,
   ⟨(some 11), .load none (.t 10), none, none⟩])
  (.block 0 (.seq (.reg none [
    ⟨(some 13), .bin .eql (.t 11) (.c (.v (.int .i64 1))), none, none⟩,
    ⟨(some 12), .mv (.t 13), none, none⟩])
   (.cond (.t 12) (.reg none [
     ⟨(some 14), .mv (.t 3), none, none⟩,
     ⟨(some 15), .mv (.t 2), none, none⟩,
     ⟨(some 16), .mv (.c .junk), none, (some ((.t 14), [(.t 15)]))⟩]) (.seq (.reg none [
     ⟨(some 18), .bin .eql (.t 11) (.c (.v (.int .i64 2))), none, none⟩,
     ⟨(some 17), .mv (.t 18), none, none⟩])
    (.cond (.t 17) (.seq (.reg (some []) [
      ⟨(some 19), .mv (.t 2), none, none⟩,
      ⟨(some 20), .fieldA 0 (.t 4), none, none⟩,
      ⟨(some 21), .load none (.t 20), none, none⟩,
      ⟨(some 22), .len (.t 21), none, none⟩,
      ⟨(some 23), .bin .lss (.t 19) (.t 22), none, none⟩,
      ⟨(some 24), .mv (.t 23), none, none⟩,
      ⟨(some 25), .fieldA 2 (.t 5), (some (24, true)), none⟩,
      ⟨(some 26), .load none (.t 25), (some (24, true)), none⟩,
      ⟨(some 27), .fieldA 0 (.t 4), (some (24, true)), none⟩,
      ⟨(some 28), .load none (.t 27), (some (24, true)), none⟩,
      ⟨(some 29), .mv (.t 2), (some (24, true)), none⟩,
      ⟨(some 30), .idxA 1 (.t 28) (.t 29), (some (24, true)), none⟩,
      ⟨(some 31), .load none (.t 30), (some (24, true)), none⟩,
      ⟨(some 32), .mv (.c .junk), (some (24, true)), (some ((.c (.clo f_slices_Contains_Sint_int_ [] [])), [(.t 26), (.t 31)]))⟩,
      ⟨(some 33), .pick (.t 24) (.t 32) (.c (.v (.bool false))), none, none⟩])
     (.cond (.t 33) (.reg none [
       ⟨(some 34), .mv (.t 3), none, none⟩,
       ⟨(some 35), .mv (.t 2), none, none⟩,
       ⟨(some 36), .bin .add (.t 35) (.c (.v (.int .i64 1))), none, none⟩,
       ⟨(some 37), .mv (.c .junk), none, (some ((.t 34), [(.t 36)]))⟩]) .skip)) (.seq (.reg none [
      ⟨(some 39), .bin .eql (.t 11) (.c (.v (.int .i64 3))), none, none⟩,
      ⟨(some 38), .mv (.t 39), none, none⟩])
     (.cond (.t 38) (.reg none [
       ⟨(some 40), .load (some 1) (.t 4), none, none⟩,
       ⟨(some 41), .fieldA 3 (.t 5), none, none⟩,
       ⟨(some 42), .load none (.t 41), none, none⟩,
       ⟨(some 43), .mv (.t 2), none, none⟩,
       ⟨(some 44), .mv (.t 3), none, none⟩,
       ⟨(some 45), .mv (.c .junk), none, (some ((.c (.clo f_reach_walker_all [] [])), [(.t 40), (.t 42), (.t 43), (.t 44)]))⟩]) (.seq (.reg none [
       ⟨(some 47), .bin .eql (.t 11) (.c (.v (.int .i64 4))), none, none⟩,
       ⟨(some 46), .mv (.t 47), none, none⟩])
      (.cond (.t 46) (.seq (.reg none [
        ⟨(some 48), .fieldA 3 (.t 5), none, none⟩,
        ⟨(some 49), .load none (.t 48), none, none⟩,
        ⟨(some 50), .len (.t 49), none, none⟩,
        ⟨(some 51), .mv (.c (.v (.int .i64 0))), none, none⟩])
       (c_fr_or f_reach_walker_from)) (.seq (.seq (.reg none [
        ⟨(some 62), .bin .eql (.t 11) (.c (.v (.int .i64 7))), none, none⟩,
        ⟨(some 61), .mv (.t 62), none, none⟩])
       (.cond (.t 61) .skip (.seq (.reg none [
         ⟨(some 63), .bin .eql (.t 11) (.c (.v (.int .i64 5))), none, none⟩,
         ⟨(some 61), .mv (.t 63), none, none⟩])
        (.cond (.t 61) .skip (.reg none [
          ⟨(some 64), .bin .eql (.t 11) (.c (.v (.int .i64 6))), none, none⟩,
          ⟨(some 61), .mv (.t 64), none, none⟩])))))
       (.cond (.t 61) (.seq (.reg none [
         ⟨(some 65), .fieldA 3 (.t 5), none, none⟩,
         ⟨(some 66), .load none (.t 65), none, none⟩,
         ⟨(some 67), .len (.t 66), none, none⟩,
         ⟨(some 68), .bin .eql (.t 67) (.c (.v (.int .i64 1))), none, none⟩])
        (.cond (.t 68) (.reg none [
          ⟨(some 69), .load (some 1) (.t 4), none, none⟩,
          ⟨(some 70), .load (some 4) (.t 5), none, none⟩,
          ⟨(some 71), .mv (.t 2), none, none⟩,
          ⟨(some 72), .mv (.t 3), none, none⟩,
          ⟨(some 73), .mv (.c .junk), none, (some ((.c (.clo f_reach_walker_again [] [])), [(.t 69), (.t 70), (.t 71), (.t 72)]))⟩]) .skip)) .skip)))))))))))))
/- No list of it is long. -/
structure FrS (l : List Int) (ks : List Pat) (tv : AV) (at_ : Int) (b4 : Nat) (Sz : St) (k : Nat) (f : AF) (S : St) : Prop where
  e2 : f 2 = encI at_
  e3 : f 3 = tv
  e4 : f 4 = .ptr b4 0 0
  e49 : f 49 = .sl false (ks.map encPat)
  e50 : f 50 = encI ks.length
  e51 : f 51 = encI k
  g4 : S.g b4 = some (.arr 1 [encW l])
  n4 : Sz.n ≤ b4 ∧ b4 < S.n
structure RFns (P : Program) (ff fa fg f1 fo fo1 a1 f2 fc : FuncId) : Prop where
  from_ : Is P ff (c_reach_walker_from fc fa ff fg) [] 4
  all_ : Is P fa (c_reach_walker_all a1 fo) [] 4
  all1 : Is P a1 (c_reach_walker_all_1 ff) [] 4
  ag : IsS P fg (c_reach_walker_again f1 fo f2 ff) [] 4
  ag1 : IsS P f1 (c_reach_walker_again_1 ff) [] 4
  ag2 : Is P f2 (c_reach_walker_again_2 fc) [] 2
  once : Is P fo (c_reach_once fo1) [2] 1
  once1 : Is P fo1 c_reach_once_1 [] 3
  cont : ∀ (l : List Int) x, Len l → PureC P fc [encIs l, encI x] (encB (l.contains x))
end Go.Rf

