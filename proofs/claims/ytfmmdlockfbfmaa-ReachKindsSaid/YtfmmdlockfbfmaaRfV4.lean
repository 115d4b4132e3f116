import Derived.Test.YtfmmdlockfbfmaaRfV3
import Derived.Test.YtfmmdlockfbfmaaRfWk
/- Own work: ReachKinds' walk. -/
set_option linter.unusedVariables false
set_option linter.unusedSimpArgs false
namespace Go.Rf
open Go.RowKit

def c_rk_in (f_reach_Matches : FuncId) : AC :=
  (.block 2 (.loop (.seq (.seq (.reg none [
        ⟨(some 68), .mv (.t 17), none, none⟩,
        ⟨(some 69), .mv (.t 13), none, none⟩,
        ⟨(some 70), .bin .leq (.t 68) (.t 69), none, none⟩])
       (.cond (.t 70) .skip (.exit 2)))
       (.seq (.block 3 (.reg none [
         ⟨(some 73), .mv (.t 16), none, none⟩,
         ⟨(some 74), .mv (.t 73), none, none⟩,
         ⟨(some 75), .load (some 4) (.t 3), (some (74, false)), none⟩,
         ⟨(some 76), .mv (.t 2), (some (74, false)), none⟩,
         ⟨(some 77), .mv (.t 17), (some (74, false)), none⟩,
         ⟨(some 78), .mv (.c .junk), (some (74, false)), (some ((.c (.clo f_reach_Matches [] [])), [(.t 75), (.t 76), (.c (.v (.int .i64 0))), (.t 77)]))⟩,
         ⟨(some 79), .mv (.t 78), (some (74, false)), none⟩,
         ⟨(some 80), .load (some 4) (.t 4), (some (79, true)), none⟩,
         ⟨(some 81), .mv (.t 2), (some (79, true)), none⟩,
         ⟨(some 82), .mv (.t 17), (some (79, true)), none⟩,
         ⟨(some 83), .mv (.t 13), (some (79, true)), none⟩,
         ⟨(some 84), .mv (.c .junk), (some (79, true)), (some ((.c (.clo f_reach_Matches [] [])), [(.t 80), (.t 81), (.t 82), (.t 83)]))⟩,
         ⟨(some 85), .pick (.t 79) (.t 84) (.c (.v (.bool false))), (some (74, false)), none⟩,
         ⟨(some 86), .pick (.t 74) (.c (.v (.bool true))) (.t 85), none, none⟩,
         ⟨(some 16), .mv (.t 86), none, none⟩]))
       (.reg none [
        ⟨(some 71), .mv (.t 17), none, none⟩,
        ⟨(some 72), .bin .add (.t 71) (.c (.v (.int .i64 1))), none, none⟩,
        ⟨(some 17), .mv (.t 72), none, none⟩])))))
def c_rk_out (f_reach_Matches : FuncId) : AC :=
  (.block 0 (.loop (.seq (.seq (.reg none [
     ⟨(some 54), .mv (.t 13), none, none⟩,
     ⟨(some 55), .mv (.t 2), none, none⟩,
     ⟨(some 56), .len (.t 55), none, none⟩,
     ⟨(some 57), .bin .leq (.t 54) (.t 56), none, none⟩])
    (.cond (.t 57) .skip (.exit 0)))
    (.seq (.block 1 (.seq (.reg (some []) [
      ⟨(some 60), .load (some 4) (.t 3), none, none⟩,
      ⟨(some 61), .mv (.t 2), none, none⟩,
      ⟨(some 62), .mv (.t 13), none, none⟩,
      ⟨(some 63), .mv (.c .junk), none, (some ((.c (.clo f_reach_Matches [] [])), [(.t 60), (.t 61), (.c (.v (.int .i64 0))), (.t 62)]))⟩,
      ⟨(some 64), .load (some 4) (.t 4), none, none⟩,
      ⟨(some 65), .mv (.t 2), none, none⟩,
      ⟨(some 66), .mv (.t 13), none, none⟩,
      ⟨(some 67), .mv (.c .junk), none, (some ((.c (.clo f_reach_Matches [] [])), [(.t 64), (.t 65), (.c (.v (.int .i64 0))), (.t 66)]))⟩,
      ⟨(some 14), .mv (.t 63), none, none⟩,
      ⟨(some 15), .mv (.t 67), none, none⟩])
     (.seq (.reg none [
      ⟨(some 16), .mv (.c (.v (.bool false))), none, none⟩])
     (.seq (.seq (.reg none [
      ⟨(some 17), .mv (.c (.v (.int .i64 0))), none, none⟩])
     (c_rk_in f_reach_Matches))
     (.seq (.reg (some []) [
      ⟨(some 87), .load (some 4) (.t 8), none, none⟩,
      ⟨(some 88), .mv (.t 2), none, none⟩,
      ⟨(some 89), .mv (.t 13), none, none⟩,
      ⟨(some 90), .mv (.c .junk), none, (some ((.c (.clo f_reach_Matches [] [])), [(.t 87), (.t 88), (.c (.v (.int .i64 0))), (.t 89)]))⟩,
      ⟨(some 91), .mv (.t 14), none, none⟩,
      ⟨(some 92), .mv (.t 91), none, none⟩,
      ⟨(some 93), .mv (.t 15), (some (92, false)), none⟩,
      ⟨(some 94), .pick (.t 92) (.c (.v (.bool true))) (.t 93), none, none⟩,
      ⟨(some 95), .beq true (.t 90) (.t 94), none, none⟩,
      ⟨(some 96), .mv (.t 95), none, none⟩,
      ⟨(some 97), .load (some 4) (.t 11), (some (96, false)), none⟩,
      ⟨(some 98), .mv (.t 2), (some (96, false)), none⟩,
      ⟨(some 99), .mv (.t 13), (some (96, false)), none⟩,
      ⟨(some 100), .mv (.c .junk), (some (96, false)), (some ((.c (.clo f_reach_Matches [] [])), [(.t 97), (.t 98), (.c (.v (.int .i64 0))), (.t 99)]))⟩,
      ⟨(some 101), .mv (.t 14), (some (96, false)), none⟩,
      ⟨(some 102), .mv (.t 101), (some (96, false)), none⟩,
      ⟨(some 103), .mv (.t 13), (some (102, false)), none⟩,
      ⟨(some 104), .bin .eql (.t 103) (.c (.v (.int .i64 0))), (some (102, false)), none⟩,
      ⟨(some 105), .pick (.t 102) (.c (.v (.bool true))) (.t 104), (some (96, false)), none⟩,
      ⟨(some 106), .beq true (.t 100) (.t 105), (some (96, false)), none⟩,
      ⟨(some 107), .pick (.t 96) (.c (.v (.bool true))) (.t 106), none, none⟩,
      ⟨(some 108), .mv (.t 107), none, none⟩,
      ⟨(some 109), .load (some 4) (.t 7), (some (108, false)), none⟩,
      ⟨(some 110), .mv (.t 2), (some (108, false)), none⟩,
      ⟨(some 111), .mv (.t 13), (some (108, false)), none⟩,
      ⟨(some 112), .mv (.c .junk), (some (108, false)), (some ((.c (.clo f_reach_Matches [] [])), [(.t 109), (.t 110), (.c (.v (.int .i64 0))), (.t 111)]))⟩,
      ⟨(some 113), .mv (.t 16), (some (108, false)), none⟩,
      ⟨(some 114), .beq true (.t 112) (.t 113), (some (108, false)), none⟩,
      ⟨(some 115), .pick (.t 108) (.c (.v (.bool true))) (.t 114), none, none⟩,
      ⟨(some 116), .mv (.t 115), none, none⟩,
      ⟨(some 117), .load (some 4) (.t 10), (some (116, false)), none⟩,
      ⟨(some 118), .mv (.t 2), (some (116, false)), none⟩,
      ⟨(some 119), .mv (.t 13), (some (116, false)), none⟩,
      ⟨(some 120), .mv (.c .junk), (some (116, false)), (some ((.c (.clo f_reach_Matches [] [])), [(.t 117), (.t 118), (.c (.v (.int .i64 0))), (.t 119)]))⟩,
      ⟨(some 121), .load (some 4) (.t 12), (some (116, false)), none⟩,
      ⟨(some 122), .mv (.t 2), (some (116, false)), none⟩,
      ⟨(some 123), .mv (.t 13), (some (116, false)), none⟩,
      ⟨(some 124), .mv (.c .junk), (some (116, false)), (some ((.c (.clo f_reach_Matches [] [])), [(.t 121), (.t 122), (.c (.v (.int .i64 0))), (.t 123)]))⟩,
      ⟨(some 125), .beq true (.t 120) (.t 124), (some (116, false)), none⟩,
      ⟨(some 126), .pick (.t 116) (.c (.v (.bool true))) (.t 125), none, none⟩,
      ⟨(some 127), .mv (.t 126), none, none⟩,
      ⟨(some 128), .load (some 4) (.t 9), (some (127, false)), none⟩,
      ⟨(some 129), .mv (.t 2), (some (127, false)), none⟩,
      ⟨(some 130), .mv (.t 13), (some (127, false)), none⟩,
      ⟨(some 131), .mv (.c .junk), (some (127, false)), (some ((.c (.clo f_reach_Matches [] [])), [(.t 128), (.t 129), (.c (.v (.int .i64 0))), (.t 130)]))⟩,
      ⟨(some 132), .mv (.t 13), (some (127, false)), none⟩,
      ⟨(some 133), .bin .eql (.t 132) (.c (.v (.int .i64 0))), (some (127, false)), none⟩,
      ⟨(some 134), .mv (.t 133), (some (127, false)), none⟩,
      ⟨(some 135), .load (some 4) (.t 10), (some (134, false)), none⟩,
      ⟨(some 136), .mv (.t 2), (some (134, false)), none⟩,
      ⟨(some 137), .mv (.t 13), (some (134, false)), none⟩,
      ⟨(some 138), .mv (.c .junk), (some (134, false)), (some ((.c (.clo f_reach_Matches [] [])), [(.t 135), (.t 136), (.c (.v (.int .i64 0))), (.t 137)]))⟩,
      ⟨(some 139), .pick (.t 134) (.c (.v (.bool true))) (.t 138), (some (127, false)), none⟩,
      ⟨(some 140), .beq true (.t 131) (.t 139), (some (127, false)), none⟩,
      ⟨(some 141), .pick (.t 127) (.c (.v (.bool true))) (.t 140), none, none⟩])
     (.cond (.t 141) (.seq (.reg none [
       ⟨(some 6), .mv (.c (.v (.bool false))), none, none⟩])
      .ret) .skip))))))
    (.reg none [
     ⟨(some 58), .mv (.t 13), none, none⟩,
     ⟨(some 59), .bin .add (.t 58) (.c (.v (.int .i64 1))), none, none⟩,
     ⟨(some 13), .mv (.t 59), none, none⟩])))))
def c_caesuralaw11_ReachKinds (f_caesuralaw11_alive f_caesuraref08_Weight f_reach_Matches : FuncId) : AC :=
  (.seq (.reg none [
   ⟨(some 3), .box 4 (.t 0), none, none⟩,
   ⟨(some 4), .box 4 (.t 1), none, none⟩,
   ⟨(some 6), .mv (.c (.v (.bool false))), none, none⟩])
  (.seq (.seq (.reg none [
   ⟨(some 18), .mv (.c .junk), none, (some ((.c (.clo f_caesuralaw11_alive [] [])), []))⟩,
   ⟨(some 19), .un .not (.t 18), none, none⟩])
  (.cond (.t 19) (.seq (.reg none [
    ⟨(some 6), .mv (.c (.v (.bool false))), none, none⟩])
   .ret) .skip))
  (.seq (.seq (.reg none [
   ⟨(some 20), .load (some 4) (.t 3), none, none⟩,
   ⟨(some 21), .mv (.c .junk), none, (some ((.c (.clo f_caesuraref08_Weight [] [])), [(.t 20), (.c (.v (.int .i64 0)))]))⟩,
   ⟨(some 22), .bin .gtr (.t 21) (.c (.v (.int .i64 200))), none, none⟩,
   ⟨(some 23), .mv (.t 22), none, none⟩,
   ⟨(some 24), .load (some 4) (.t 4), (some (23, false)), none⟩,
   ⟨(some 25), .mv (.c .junk), (some (23, false)), (some ((.c (.clo f_caesuraref08_Weight [] [])), [(.t 24), (.c (.v (.int .i64 0)))]))⟩,
   ⟨(some 26), .bin .gtr (.t 25) (.c (.v (.int .i64 200))), (some (23, false)), none⟩,
   ⟨(some 27), .pick (.t 23) (.c (.v (.bool true))) (.t 26), none, none⟩,
   ⟨(some 28), .mv (.t 27), none, none⟩,
   ⟨(some 29), .mv (.t 2), (some (28, false)), none⟩,
   ⟨(some 30), .len (.t 29), (some (28, false)), none⟩,
   ⟨(some 31), .bin .gtr (.t 30) (.c (.v (.int .i64 15))), (some (28, false)), none⟩,
   ⟨(some 32), .pick (.t 28) (.c (.v (.bool true))) (.t 31), none, none⟩])
  (.cond (.t 32) (.seq (.reg none [
    ⟨(some 6), .mv (.c (.v (.bool true))), none, none⟩])
   .ret) .skip))
  (.seq (.reg none [
   ⟨(some 33), .load (some 4) (.t 3), none, none⟩,
   ⟨(some 34), .load (some 4) (.t 4), none, none⟩,
   ⟨(some 35), .bslice 4 2 (.agg [(.v (.int .i64 0)), (.sl true []), (.sl true []), (.sl true [])]) [(0, (.t 33)), (1, (.t 34))], none, none⟩,
   ⟨(some 36), .build (.agg [(.v (.int .i64 0)), (.sl true []), (.sl true []), (.sl true [])]) [(0, 1), (3, 1)] [(0, (.c (.v (.int .i64 3)))), (3, (.t 35))], none, none⟩,
   ⟨(some 7), .alloc (.agg [(.v (.int .i64 0)), (.sl true []), (.sl true []), (.sl true [])]) 4, none, none⟩,
   ⟨none, .store 4 (.t 7) (.t 36), none, none⟩])
  (.seq (.reg none [
   ⟨(some 37), .load (some 4) (.t 3), none, none⟩,
   ⟨(some 38), .load (some 4) (.t 4), none, none⟩,
   ⟨(some 39), .bslice 4 2 (.agg [(.v (.int .i64 0)), (.sl true []), (.sl true []), (.sl true [])]) [(0, (.t 37)), (1, (.t 38))], none, none⟩,
   ⟨(some 40), .build (.agg [(.v (.int .i64 0)), (.sl true []), (.sl true []), (.sl true [])]) [(0, 1), (3, 1)] [(0, (.c (.v (.int .i64 4)))), (3, (.t 39))], none, none⟩,
   ⟨(some 8), .alloc (.agg [(.v (.int .i64 0)), (.sl true []), (.sl true []), (.sl true [])]) 4, none, none⟩,
   ⟨none, .store 4 (.t 8) (.t 40), none, none⟩])
  (.seq (.reg none [
   ⟨(some 41), .load (some 4) (.t 3), none, none⟩,
   ⟨(some 42), .bslice 4 1 (.agg [(.v (.int .i64 0)), (.sl true []), (.sl true []), (.sl true [])]) [(0, (.t 41))], none, none⟩,
   ⟨(some 43), .build (.agg [(.v (.int .i64 0)), (.sl true []), (.sl true []), (.sl true [])]) [(0, 1), (3, 1)] [(0, (.c (.v (.int .i64 5)))), (3, (.t 42))], none, none⟩,
   ⟨(some 9), .alloc (.agg [(.v (.int .i64 0)), (.sl true []), (.sl true []), (.sl true [])]) 4, none, none⟩,
   ⟨none, .store 4 (.t 9) (.t 43), none, none⟩])
  (.seq (.reg none [
   ⟨(some 44), .load (some 4) (.t 3), none, none⟩,
   ⟨(some 45), .bslice 4 1 (.agg [(.v (.int .i64 0)), (.sl true []), (.sl true []), (.sl true [])]) [(0, (.t 44))], none, none⟩,
   ⟨(some 46), .build (.agg [(.v (.int .i64 0)), (.sl true []), (.sl true []), (.sl true [])]) [(0, 1), (3, 1)] [(0, (.c (.v (.int .i64 6)))), (3, (.t 45))], none, none⟩,
   ⟨(some 10), .alloc (.agg [(.v (.int .i64 0)), (.sl true []), (.sl true []), (.sl true [])]) 4, none, none⟩,
   ⟨none, .store 4 (.t 10) (.t 46), none, none⟩])
  (.seq (.reg none [
   ⟨(some 47), .load (some 4) (.t 3), none, none⟩,
   ⟨(some 48), .bslice 4 1 (.agg [(.v (.int .i64 0)), (.sl true []), (.sl true []), (.sl true [])]) [(0, (.t 47))], none, none⟩,
   ⟨(some 49), .build (.agg [(.v (.int .i64 0)), (.sl true []), (.sl true []), (.sl true [])]) [(0, 1), (3, 1)] [(0, (.c (.v (.int .i64 7)))), (3, (.t 48))], none, none⟩,
   ⟨(some 11), .alloc (.agg [(.v (.int .i64 0)), (.sl true []), (.sl true []), (.sl true [])]) 4, none, none⟩,
   ⟨none, .store 4 (.t 11) (.t 49), none, none⟩])
  (.seq (.reg none [
   ⟨(some 50), .load (some 4) (.t 3), none, none⟩,
   ⟨(some 51), .load (some 4) (.t 9), none, none⟩,
   ⟨(some 52), .bslice 4 2 (.agg [(.v (.int .i64 0)), (.sl true []), (.sl true []), (.sl true [])]) [(0, (.t 50)), (1, (.t 51))], none, none⟩,
   ⟨(some 53), .build (.agg [(.v (.int .i64 0)), (.sl true []), (.sl true []), (.sl true [])]) [(0, 1), (3, 1)] [(0, (.c (.v (.int .i64 3)))), (3, (.t 52))], none, none⟩,
   ⟨(some 12), .alloc (.agg [(.v (.int .i64 0)), (.sl true []), (.sl true []), (.sl true [])]) 4, none, none⟩,
   ⟨none, .store 4 (.t 12) (.t 53), none, none⟩])
  (.seq (.seq (.reg none [
   ⟨(some 13), .mv (.c (.v (.int .i64 0))), none, none⟩])
  (c_rk_out f_reach_Matches))
  (.seq (.reg none [
   ⟨(some 6), .mv (.c (.v (.bool true))), none, none⟩])
  .ret)))))))))))
def bP (k : Int) (xs : List AV) : AV := .agg [encI k, .sl true [], .sl true [], .sl true xs]
def RkC (P : Program) (fm : FuncId) (l : List Int) (v : AV) (p : Pat) : Prop := ∀ a b : Int, PureC P fm [v, encIs l, encI a, encI b] (encB (matP p l a b))
structure RkV where
  p : AV
  q : AV
  jn : AV
  or_ : AV
  st : AV
  pl : AV
  mb : AV
  bo : AV
structure RkS (l : List Int) (V : RkV) (b : Nat → Nat) (f : AF) (S : St) : Prop where
  e2 : f 2 = encIs l
  e3 : f 3 = .ptr (b 3) 0 0
  e4 : f 4 = .ptr (b 4) 0 0
  e7 : f 7 = .ptr (b 7) 0 0
  e8 : f 8 = .ptr (b 8) 0 0
  e9 : f 9 = .ptr (b 9) 0 0
  e10 : f 10 = .ptr (b 10) 0 0
  e11 : f 11 = .ptr (b 11) 0 0
  e12 : f 12 = .ptr (b 12) 0 0
  g3 : S.g (b 3) = some (.arr 4 [V.p])
  g4 : S.g (b 4) = some (.arr 4 [V.q])
  g7 : S.g (b 7) = some (.arr 4 [V.jn])
  g8 : S.g (b 8) = some (.arr 4 [V.or_])
  g9 : S.g (b 9) = some (.arr 4 [V.st])
  g10 : S.g (b 10) = some (.arr 4 [V.pl])
  g11 : S.g (b 11) = some (.arr 4 [V.mb])
  g12 : S.g (b 12) = some (.arr 4 [V.bo])
theorem RkS.same {l : List Int} {V : RkV} {b : Nat → Nat} {f f' : AF} {S S' : St} (h : RkS l V b f S) (hf : ∀ j, j = 2 ∨ j = 3 ∨ j = 4 ∨ j = 7 ∨ j = 8 ∨ j = 9 ∨ j = 10 ∨ j = 11 ∨ j = 12 → f' j = f j) (hg : S'.g = S.g) : RkS l V b f' S' :=
  ⟨by rw [hf 2 (by simp)]; exact h.e2, by rw [hf 3 (by simp)]; exact h.e3, by rw [hf 4 (by simp)]; exact h.e4, by rw [hf 7 (by simp)]; exact h.e7, by rw [hf 8 (by simp)]; exact h.e8, by rw [hf 9 (by simp)]; exact h.e9, by rw [hf 10 (by simp)]; exact h.e10, by rw [hf 11 (by simp)]; exact h.e11, by rw [hf 12 (by simp)]; exact h.e12,
    by rw [hg]; exact h.g3, by rw [hg]; exact h.g4, by rw [hg]; exact h.g7, by rw [hg]; exact h.g8, by rw [hg]; exact h.g9, by rw [hg]; exact h.g10, by rw [hg]; exact h.g11, by rw [hg]; exact h.g12⟩
/-- A value that is a form's. -/
def Fm (v : AV) : Prop := Closed v ∧ ∃ x1 x2 x3 x4, v = .agg [x1, x2, x3, x4]
structure RkF (V : RkV) : Prop where
  p : Fm V.p
  q : Fm V.q
  jn : Fm V.jn
  or_ : Fm V.or_
  st : Fm V.st
  pl : Fm V.pl
  mb : Fm V.mb
  bo : Fm V.bo
def RkI (l : List Int) (p q : Pat) (V : RkV) (b : Nat → Nat) (i : Nat) (x y : Bool) (k : Nat) (f : AF) (S : St) : Prop := RkS l V b f S ∧ f 13 = encI i ∧ f 14 = encB x ∧ f 15 = encB y ∧ f 16 = encB (splitB p q l i k) ∧ f 17 = encI k
theorem splitB_succ (p q : Pat) (l : List Int) (i n : Nat) : splitB p q l i (n + 1) = (splitB p q l i n || (matP p l 0 n && matP q l n i)) := by
  unfold splitB; rw [List.range_succ, List.any_append]; simp
theorem rk_in {P : Program} {fm : FuncId} {l : List Int} {p q : Pat} {V : RkV} {b : Nat → Nat} {i : Nat} {x y : Bool} (hF : RkF V) (hl : l.length ≤ 15) (hi : i ≤ l.length) (hp : RkC P fm l V.p p) (hq : RkC P fm l V.q q) {f : AF} {S : St} {Q : Exit → AF → St → Prop} (h0 : RkI l p q V b i x y 0 f S)
    (hQ : ∀ f' S', RkI l p q V b i x y (i + 1) f' S' → Q .normal f' S') : AW P (c_rk_in fm) Q f S := by
  obtain ⟨cp, x1, x2, x3, x4, hvp⟩ := hF.p
  obtain ⟨cq, y1, y2, y3, y4, hvq⟩ := hF.q
  simp [AW_seq, AW_reg, AW_regD, AW_block, AW_cond, AW_skip, AW_exit, AW_ret, AW_scp, condR_true, condR_false, AThen_normal, AThen_ret, AThen_exit, ABlock_normal, ABlock_ret, ABlock_exit, AScope_normal, AScope_ret, AScope_exit, RetK_ret, RetK_normal, retAV_one, retAV_two, retAV_three, retAV_nil, RG_nil, RG_op, RG_guard, gdR_tt, gdR_ff, gdR_tf, gdR_ft, gdR_un, RG_call, callQ_clo, contK_ap, opR_some, RD_nil, RD_op0, RD_op1, opD0_some, opD1_some, RD_call, callQD_clo, RD_guard, gdD_tt, gdD_ff, gdD_tf, gdD_ft, gdD_un, psh_nil, psh_cons, Apt_nil, Apt_nilT, Apt_true, Apt_false, Dis_def, runT_val, runT_rd, runT_wr, runT_new, runT_mv, ex, put_some, put_none, ev_t, ev_c, argF_zero, argF_succ, set_g, set_n, cells_v, cells_sl, cells_agg, cells_own, cells_ptr, cells_clo, cells_eptr, cells_mp, putc, exBslice, lfill, exField, exIdxV, exIdxP, exBox, exAlloc, exLoad, exStore, exFieldA, exIdxA, exLen, exPick, exUn, exBeq, exMM, exSeq, seqGo, exExt, binV, intOp, subc, AV.solid, S0, encI, encB, c_rk_in]
  refine AW_for (i + 1) (RkI l p q V b i x y) h0 ?_
  rintro k f S hk ⟨hs, e13, e14, e15, e16, e17⟩
  obtain ⟨e2, e3, e4, e7, e8, e9, e10, e11, e12, g3, g4, g7, g8, g9, g10, g11, g12⟩ := hs
  have hs := (⟨e2, e3, e4, e7, e8, e9, e10, e11, e12, g3, g4, g7, g8, g9, g10, g11, g12⟩ : RkS l V b f S)
  rw [hvp] at g3 cp
  rw [hvq] at g4 cq
  have hss := splitB_succ p q l i k
  by_cases hlt : (k : Int) ≤ i
  · have hlt' : k ≤ i := by omega
    have kp := hp 0 k
    have kq := hq k i
    rw [hvp] at kp
    rw [hvq] at kq
    simp only [encIs, encI] at kp kq
    have fin : ∀ (f' : AF) (S' : St) (z : Bool), splitB p q l i (k + 1) = z → (∀ j, j = 2 ∨ j = 3 ∨ j = 4 ∨ j = 7 ∨ j = 8 ∨ j = 9 ∨ j = 10 ∨ j = 11 ∨ j = 12 → f' j = f j) → S'.g = S.g → f' 13 = f 13 → f' 14 = f 14 → f' 15 = f 15 → f' 16 = encB z → f' 17 = encI ((k : Int) + 1) →
        RkI l p q V b i x y (k + 1) f' S' := fun f' S' z hz h1 h2 h3 h4 h5 h6 h7 => ⟨hs.same h1 h2, by rw [h3, e13], by rw [h4, e14], by rw [h5, e15], by rw [hz, h6], by rw [h7]; simp⟩
    have c1 := cl_cons cp (cl_cons (closed_Is l) (cl_cons (closed_I 0) (cl_cons (closed_I k) cl_nil)))
    have c2 := cl_cons cq (cl_cons (closed_Is l) (cl_cons (closed_I k) (cl_cons (closed_I i) cl_nil)))
    simp only [encIs, encI] at c1 c2
    generalize splitB p q l i k = u at *
    generalize matP p l 0 k = v at *
    generalize matP q l k i = w at *
    cases u with
    | true =>
      simp [AW_seq, AW_reg, AW_regD, AW_block, AW_cond, AW_skip, AW_exit, AW_ret, AW_scp, condR_true, condR_false, AThen_normal, AThen_ret, AThen_exit, ABlock_normal, ABlock_ret, ABlock_exit, AScope_normal, AScope_ret, AScope_exit, RetK_ret, RetK_normal, retAV_one, retAV_two, retAV_three, retAV_nil, RG_nil, RG_op, RG_guard, gdR_tt, gdR_ff, gdR_tf, gdR_ft, gdR_un, RG_call, callQ_clo, contK_ap, opR_some, RD_nil, RD_op0, RD_op1, opD0_some, opD1_some, RD_call, callQD_clo, RD_guard, gdD_tt, gdD_ff, gdD_tf, gdD_ft, gdD_un, psh_nil, psh_cons, Apt_nil, Apt_nilT, Apt_true, Apt_false, Dis_def, runT_val, runT_rd, runT_wr, runT_new, runT_mv, ex, put_some, put_none, ev_t, ev_c, argF_zero, argF_succ, set_g, set_n, cells_v, cells_sl, cells_agg, cells_own, cells_ptr, cells_clo, cells_eptr, cells_mp, putc, exBslice, lfill, exField, exIdxV, exIdxP, exBox, exAlloc, exLoad, exStore, exFieldA, exIdxA, exLen, exPick, exUn, exBeq, exMM, exSeq, seqGo, exExt, binV, intOp, subc, AV.solid, S0, encI, encB, e2, e3, e4, e13, e14, e15, e16, e17, g3, g4, encIs, hlt, hlt']
      rw [wrap_in _ (by omega)]
      refine ⟨by omega, fin _ _ true (by rw [hss]; simp) (fun j hj => ?_) rfl ?_ ?_ ?_ ?_ ?_⟩
      · rcases hj with rfl | rfl | rfl | rfl | rfl | rfl | rfl | rfl | rfl <;> simp [put_some]
      all_goals simp [put_some, encI, encB]
    | false =>
      simp [AW_seq, AW_reg, AW_regD, AW_block, AW_cond, AW_skip, AW_exit, AW_ret, AW_scp, condR_true, condR_false, AThen_normal, AThen_ret, AThen_exit, ABlock_normal, ABlock_ret, ABlock_exit, AScope_normal, AScope_ret, AScope_exit, RetK_ret, RetK_normal, retAV_one, retAV_two, retAV_three, retAV_nil, RG_nil, RG_op, RG_guard, gdR_tt, gdR_ff, gdR_tf, gdR_ft, gdR_un, RG_call, callQ_clo, contK_ap, opR_some, RD_nil, RD_op0, RD_op1, opD0_some, opD1_some, RD_call, callQD_clo, RD_guard, gdD_tt, gdD_ff, gdD_tf, gdD_ft, gdD_un, psh_nil, psh_cons, Apt_nil, Apt_nilT, Apt_true, Apt_false, Dis_def, runT_val, runT_rd, runT_wr, runT_new, runT_mv, ex, put_some, put_none, ev_t, ev_c, argF_zero, argF_succ, set_g, set_n, cells_v, cells_sl, cells_agg, cells_own, cells_ptr, cells_clo, cells_eptr, cells_mp, putc, exBslice, lfill, exField, exIdxV, exIdxP, exBox, exAlloc, exLoad, exStore, exFieldA, exIdxA, exLen, exPick, exUn, exBeq, exMM, exSeq, seqGo, exExt, binV, intOp, subc, AV.solid, S0, encI, encB, e2, e3, e4, e13, e14, e15, e16, e17, g3, g4, encIs, hlt, hlt']
      refine CallR.pure kp c1 (closed_B _) ?_
      cases v with
      | false =>
        simp [AW_seq, AW_reg, AW_regD, AW_block, AW_cond, AW_skip, AW_exit, AW_ret, AW_scp, condR_true, condR_false, AThen_normal, AThen_ret, AThen_exit, ABlock_normal, ABlock_ret, ABlock_exit, AScope_normal, AScope_ret, AScope_exit, RetK_ret, RetK_normal, retAV_one, retAV_two, retAV_three, retAV_nil, RG_nil, RG_op, RG_guard, gdR_tt, gdR_ff, gdR_tf, gdR_ft, gdR_un, RG_call, callQ_clo, contK_ap, opR_some, RD_nil, RD_op0, RD_op1, opD0_some, opD1_some, RD_call, callQD_clo, RD_guard, gdD_tt, gdD_ff, gdD_tf, gdD_ft, gdD_un, psh_nil, psh_cons, Apt_nil, Apt_nilT, Apt_true, Apt_false, Dis_def, runT_val, runT_rd, runT_wr, runT_new, runT_mv, ex, put_some, put_none, ev_t, ev_c, argF_zero, argF_succ, set_g, set_n, cells_v, cells_sl, cells_agg, cells_own, cells_ptr, cells_clo, cells_eptr, cells_mp, putc, exBslice, lfill, exField, exIdxV, exIdxP, exBox, exAlloc, exLoad, exStore, exFieldA, exIdxA, exLen, exPick, exUn, exBeq, exMM, exSeq, seqGo, exExt, binV, intOp, subc, AV.solid, S0, encI, encB, e2, e3, e4, e13, e14, e15, e16, e17, g3, g4, encIs]
        rw [wrap_in _ (by omega)]
        refine ⟨by omega, fin _ _ false (by rw [hss]; simp) (fun j hj => ?_) rfl ?_ ?_ ?_ ?_ ?_⟩
        · rcases hj with rfl | rfl | rfl | rfl | rfl | rfl | rfl | rfl | rfl <;> simp [put_some]
        all_goals simp [put_some, encI, encB]
      | true =>
        simp [AW_seq, AW_reg, AW_regD, AW_block, AW_cond, AW_skip, AW_exit, AW_ret, AW_scp, condR_true, condR_false, AThen_normal, AThen_ret, AThen_exit, ABlock_normal, ABlock_ret, ABlock_exit, AScope_normal, AScope_ret, AScope_exit, RetK_ret, RetK_normal, retAV_one, retAV_two, retAV_three, retAV_nil, RG_nil, RG_op, RG_guard, gdR_tt, gdR_ff, gdR_tf, gdR_ft, gdR_un, RG_call, callQ_clo, contK_ap, opR_some, RD_nil, RD_op0, RD_op1, opD0_some, opD1_some, RD_call, callQD_clo, RD_guard, gdD_tt, gdD_ff, gdD_tf, gdD_ft, gdD_un, psh_nil, psh_cons, Apt_nil, Apt_nilT, Apt_true, Apt_false, Dis_def, runT_val, runT_rd, runT_wr, runT_new, runT_mv, ex, put_some, put_none, ev_t, ev_c, argF_zero, argF_succ, set_g, set_n, cells_v, cells_sl, cells_agg, cells_own, cells_ptr, cells_clo, cells_eptr, cells_mp, putc, exBslice, lfill, exField, exIdxV, exIdxP, exBox, exAlloc, exLoad, exStore, exFieldA, exIdxA, exLen, exPick, exUn, exBeq, exMM, exSeq, seqGo, exExt, binV, intOp, subc, AV.solid, S0, encI, encB, e2, e3, e4, e13, e14, e15, e16, e17, g3, g4, encIs]
        refine CallR.pure kq c2 (closed_B _) ?_
        simp [AW_seq, AW_reg, AW_regD, AW_block, AW_cond, AW_skip, AW_exit, AW_ret, AW_scp, condR_true, condR_false, AThen_normal, AThen_ret, AThen_exit, ABlock_normal, ABlock_ret, ABlock_exit, AScope_normal, AScope_ret, AScope_exit, RetK_ret, RetK_normal, retAV_one, retAV_two, retAV_three, retAV_nil, RG_nil, RG_op, RG_guard, gdR_tt, gdR_ff, gdR_tf, gdR_ft, gdR_un, RG_call, callQ_clo, contK_ap, opR_some, RD_nil, RD_op0, RD_op1, opD0_some, opD1_some, RD_call, callQD_clo, RD_guard, gdD_tt, gdD_ff, gdD_tf, gdD_ft, gdD_un, psh_nil, psh_cons, Apt_nil, Apt_nilT, Apt_true, Apt_false, Dis_def, runT_val, runT_rd, runT_wr, runT_new, runT_mv, ex, put_some, put_none, ev_t, ev_c, argF_zero, argF_succ, set_g, set_n, cells_v, cells_sl, cells_agg, cells_own, cells_ptr, cells_clo, cells_eptr, cells_mp, putc, exBslice, lfill, exField, exIdxV, exIdxP, exBox, exAlloc, exLoad, exStore, exFieldA, exIdxA, exLen, exPick, exUn, exBeq, exMM, exSeq, seqGo, exExt, binV, intOp, subc, AV.solid, S0, encI, encB, e2, e3, e4, e13, e14, e15, e16, e17, g3, g4, encIs]
        rw [wrap_in _ (by omega)]
        refine ⟨by omega, fin _ _ w (by rw [hss]; simp) (fun j hj => ?_) rfl ?_ ?_ ?_ ?_ ?_⟩
        · rcases hj with rfl | rfl | rfl | rfl | rfl | rfl | rfl | rfl | rfl <;> simp [put_some]
        all_goals simp [put_some, encI, encB]
  · have hke : k = i + 1 := by omega
    have hlt' : ¬ k ≤ i := by omega
    simp [AW_seq, AW_reg, AW_regD, AW_block, AW_cond, AW_skip, AW_exit, AW_ret, AW_scp, condR_true, condR_false, AThen_normal, AThen_ret, AThen_exit, ABlock_normal, ABlock_ret, ABlock_exit, AScope_normal, AScope_ret, AScope_exit, RetK_ret, RetK_normal, retAV_one, retAV_two, retAV_three, retAV_nil, RG_nil, RG_op, RG_guard, gdR_tt, gdR_ff, gdR_tf, gdR_ft, gdR_un, RG_call, callQ_clo, contK_ap, opR_some, RD_nil, RD_op0, RD_op1, opD0_some, opD1_some, RD_call, callQD_clo, RD_guard, gdD_tt, gdD_ff, gdD_tf, gdD_ft, gdD_un, psh_nil, psh_cons, Apt_nil, Apt_nilT, Apt_true, Apt_false, Dis_def, runT_val, runT_rd, runT_wr, runT_new, runT_mv, ex, put_some, put_none, ev_t, ev_c, argF_zero, argF_succ, set_g, set_n, cells_v, cells_sl, cells_agg, cells_own, cells_ptr, cells_clo, cells_eptr, cells_mp, putc, exBslice, lfill, exField, exIdxV, exIdxP, exBox, exAlloc, exLoad, exStore, exFieldA, exIdxA, exLen, exPick, exUn, exBeq, exMM, exSeq, seqGo, exExt, binV, intOp, subc, AV.solid, S0, encI, encB, e13, e17, hlt, hlt']
    subst hke
    refine hQ _ _ ⟨hs.same (fun j hj => by rcases hj with rfl | rfl | rfl | rfl | rfl | rfl | rfl | rfl | rfl <;> simp [put_some]) rfl, ?_, ?_, ?_, ?_, ?_⟩ <;> simp [put_some, e13, e14, e15, e16, e17, encI]
def RkO (l : List Int) (V : RkV) (b : Nat → Nat) (i : Nat) (f : AF) (S : St) : Prop := RkS l V b f S ∧ f 13 = encI i
theorem rk_out {P : Program} {fm : FuncId} {l : List Int} {p q : Pat} {V : RkV} {b : Nat → Nat} (hF : RkF V) (hl : l.length ≤ 15) (hp : RkC P fm l V.p p) (hq : RkC P fm l V.q q) (hj : RkC P fm l V.jn (.mk 3 [] [] [p, q])) (ho : RkC P fm l V.or_ (.mk 4 [] [] [p, q]))
    (hs5 : RkC P fm l V.st (.mk 5 [] [] [p])) (hp6 : RkC P fm l V.pl (.mk 6 [] [] [p])) (hm7 : RkC P fm l V.mb (.mk 7 [] [] [p])) (hb : RkC P fm l V.bo (.mk 3 [] [] [p, .mk 5 [] [] [p]]))
    {f : AF} {S : St} {Q : Exit → AF → St → Prop} (h0 : RkO l V b 0 f S) (hQ : ∀ f' S', Q .normal f' S') : AW P (c_rk_out fm) Q f S := by
  obtain ⟨cp, x1, x2, x3, x4, hvp⟩ := hF.p
  obtain ⟨cq, y1, y2, y3, y4, hvq⟩ := hF.q
  obtain ⟨cj, j1, j2, j3, j4, hvj⟩ := hF.jn
  obtain ⟨co, o1, o2, o3, o4, hvo⟩ := hF.or_
  obtain ⟨cs, s1, s2, s3, s4, hvs⟩ := hF.st
  obtain ⟨cl, l1, l2, l3, l4, hvl⟩ := hF.pl
  obtain ⟨cm, m1, m2, m3, m4, hvm⟩ := hF.mb
  obtain ⟨cb, b1, b2, b3, b4, hvb⟩ := hF.bo
  simp [AW_seq, AW_reg, AW_regD, AW_block, AW_cond, AW_skip, AW_exit, AW_ret, AW_scp, condR_true, condR_false, AThen_normal, AThen_ret, AThen_exit, ABlock_normal, ABlock_ret, ABlock_exit, AScope_normal, AScope_ret, AScope_exit, RetK_ret, RetK_normal, retAV_one, retAV_two, retAV_three, retAV_nil, RG_nil, RG_op, RG_guard, gdR_tt, gdR_ff, gdR_tf, gdR_ft, gdR_un, RG_call, callQ_clo, contK_ap, opR_some, RD_nil, RD_op0, RD_op1, opD0_some, opD1_some, RD_call, callQD_clo, RD_guard, gdD_tt, gdD_ff, gdD_tf, gdD_ft, gdD_un, psh_nil, psh_cons, Apt_nil, Apt_nilT, Apt_true, Apt_false, Dis_def, runT_val, runT_rd, runT_wr, runT_new, runT_mv, ex, put_some, put_none, ev_t, ev_c, argF_zero, argF_succ, set_g, set_n, cells_v, cells_sl, cells_agg, cells_own, cells_ptr, cells_clo, cells_eptr, cells_mp, putc, exBslice, lfill, exField, exIdxV, exIdxP, exBox, exAlloc, exLoad, exStore, exFieldA, exIdxA, exLen, exPick, exUn, exBeq, exMM, exSeq, seqGo, exExt, binV, intOp, subc, AV.solid, S0, encI, encB, c_rk_out]
  refine AW_for (l.length + 1) (RkO l V b) h0 ?_
  rintro i f S hi ⟨hs, e13⟩
  obtain ⟨e2, e3, e4, e7, e8, e9, e10, e11, e12, g3, g4, g7, g8, g9, g10, g11, g12⟩ := hs
  have hs := (⟨e2, e3, e4, e7, e8, e9, e10, e11, e12, g3, g4, g7, g8, g9, g10, g11, g12⟩ : RkS l V b f S)
  rw [hvp] at g3 cp
  rw [hvq] at g4 cq
  by_cases hlt : (i : Int) ≤ l.length
  · have hlt' : i ≤ l.length := by omega
    have kp := hp 0 i
    have kq := hq 0 i
    have kj := hj 0 i
    have ko := ho 0 i
    have ks := hs5 0 i
    have kl := hp6 0 i
    have km := hm7 0 i
    have kb := hb 0 i
    rw [hvp] at kp
    rw [hvq] at kq
    rw [hvj, mat_join p q l i hlt'] at kj
    rw [hvj] at cj
    rw [hvo, mat_or] at ko
    rw [hvo] at co
    rw [hvs, mat_star] at ks
    rw [hvs] at cs
    rw [hvl] at kl cl
    rw [hvm, mat_maybe] at km
    rw [hvm] at cm
    rw [hvb, ← mat_both] at kb
    rw [hvb] at cb
    simp only [encIs, encI] at kp kq kj ko ks kl km kb
    have cc : ∀ {v : AV}, Closed v → ∀ y ∈ [v, .sl false (l.map encI), .v (.int .i64 0), .v (.int .i64 (i : Int))], Closed y := fun h => cl_cons h (cl_cons (closed_Is l) (cl_cons (closed_I 0) (cl_cons (closed_I i) cl_nil)))
    have d1 : ∀ n g, CallD P fm _ ⟨n, g⟩ [] _ := fun n g => CallD.kl kp (cc cp) (closed_B _)
    have d2 : ∀ n g, CallD P fm _ ⟨n, g⟩ [] _ := fun n g => CallD.kl kq (cc cq) (closed_B _)
    simp [AW_seq, AW_reg, AW_regD, AW_block, AW_cond, AW_skip, AW_exit, AW_ret, AW_scp, condR_true, condR_false, AThen_normal, AThen_ret, AThen_exit, ABlock_normal, ABlock_ret, ABlock_exit, AScope_normal, AScope_ret, AScope_exit, RetK_ret, RetK_normal, retAV_one, retAV_two, retAV_three, retAV_nil, RG_nil, RG_op, RG_guard, gdR_tt, gdR_ff, gdR_tf, gdR_ft, gdR_un, RG_call, callQ_clo, contK_ap, opR_some, RD_nil, RD_op0, RD_op1, opD0_some, opD1_some, RD_call, callQD_clo, RD_guard, gdD_tt, gdD_ff, gdD_tf, gdD_ft, gdD_un, psh_nil, psh_cons, Apt_nil, Apt_nilT, Apt_true, Apt_false, Dis_def, runT_val, runT_rd, runT_wr, runT_new, runT_mv, ex, put_some, put_none, ev_t, ev_c, argF_zero, argF_succ, set_g, set_n, cells_v, cells_sl, cells_agg, cells_own, cells_ptr, cells_clo, cells_eptr, cells_mp, putc, exBslice, lfill, exField, exIdxV, exIdxP, exBox, exAlloc, exLoad, exStore, exFieldA, exIdxA, exLen, exPick, exUn, exBeq, exMM, exSeq, seqGo, exExt, binV, intOp, subc, AV.solid, S0, encI, encB, e2, e3, e4, e13, g3, g4, encIs, hlt, hlt']
    refine ⟨encB (matP p l 0 i), ⟨[], d1 _ _⟩, ?_⟩
    simp [AW_seq, AW_reg, AW_regD, AW_block, AW_cond, AW_skip, AW_exit, AW_ret, AW_scp, condR_true, condR_false, AThen_normal, AThen_ret, AThen_exit, ABlock_normal, ABlock_ret, ABlock_exit, AScope_normal, AScope_ret, AScope_exit, RetK_ret, RetK_normal, retAV_one, retAV_two, retAV_three, retAV_nil, RG_nil, RG_op, RG_guard, gdR_tt, gdR_ff, gdR_tf, gdR_ft, gdR_un, RG_call, callQ_clo, contK_ap, opR_some, RD_nil, RD_op0, RD_op1, opD0_some, opD1_some, RD_call, callQD_clo, RD_guard, gdD_tt, gdD_ff, gdD_tf, gdD_ft, gdD_un, psh_nil, psh_cons, Apt_nil, Apt_nilT, Apt_true, Apt_false, Dis_def, runT_val, runT_rd, runT_wr, runT_new, runT_mv, ex, put_some, put_none, ev_t, ev_c, argF_zero, argF_succ, set_g, set_n, cells_v, cells_sl, cells_agg, cells_own, cells_ptr, cells_clo, cells_eptr, cells_mp, putc, exBslice, lfill, exField, exIdxV, exIdxP, exBox, exAlloc, exLoad, exStore, exFieldA, exIdxA, exLen, exPick, exUn, exBeq, exMM, exSeq, seqGo, exExt, binV, intOp, subc, AV.solid, S0, encI, encB, e2, e3, e4, e13, g3, g4, encIs]
    refine ⟨encB (matP q l 0 i), ⟨[], d2 _ _⟩, ?_⟩
    simp [AW_seq, AW_reg, AW_regD, AW_block, AW_cond, AW_skip, AW_exit, AW_ret, AW_scp, condR_true, condR_false, AThen_normal, AThen_ret, AThen_exit, ABlock_normal, ABlock_ret, ABlock_exit, AScope_normal, AScope_ret, AScope_exit, RetK_ret, RetK_normal, retAV_one, retAV_two, retAV_three, retAV_nil, RG_nil, RG_op, RG_guard, gdR_tt, gdR_ff, gdR_tf, gdR_ft, gdR_un, RG_call, callQ_clo, contK_ap, opR_some, RD_nil, RD_op0, RD_op1, opD0_some, opD1_some, RD_call, callQD_clo, RD_guard, gdD_tt, gdD_ff, gdD_tf, gdD_ft, gdD_un, psh_nil, psh_cons, Apt_nil, Apt_nilT, Apt_true, Apt_false, Dis_def, runT_val, runT_rd, runT_wr, runT_new, runT_mv, ex, put_some, put_none, ev_t, ev_c, argF_zero, argF_succ, set_g, set_n, cells_v, cells_sl, cells_agg, cells_own, cells_ptr, cells_clo, cells_eptr, cells_mp, putc, exBslice, lfill, exField, exIdxV, exIdxP, exBox, exAlloc, exLoad, exStore, exFieldA, exIdxA, exLen, exPick, exUn, exBeq, exMM, exSeq, seqGo, exExt, binV, intOp, subc, AV.solid, S0, encI, encB, e2, e3, e4, e13, g3, g4, encIs]
    refine rk_in (l := l) (p := p) (q := q) (V := V) (b := b) (i := i) (x := matP p l 0 i) (y := matP q l 0 i) hF hl hlt' hp hq ⟨hs.same (fun j hj => by rcases hj with rfl | rfl | rfl | rfl | rfl | rfl | rfl | rfl | rfl <;> simp [put_some]) rfl, ?_, ?_, ?_, ?_, ?_⟩ (fun f S h => ?_)
    · simp [put_some, e13]
    · simp [put_some, encB]
    · simp [put_some, encB]
    · simp [put_some, encB, splitB]
    · simp [put_some, encI]
    · obtain ⟨hs, e13, e14, e15, e16, e17⟩ := h
      obtain ⟨e2, e3, e4, e7, e8, e9, e10, e11, e12, g3, g4, g7, g8, g9, g10, g11, g12⟩ := hs
      have hs := (⟨e2, e3, e4, e7, e8, e9, e10, e11, e12, g3, g4, g7, g8, g9, g10, g11, g12⟩ : RkS l V b f S)
      rw [hvj] at g7
      rw [hvo] at g8
      rw [hvs] at g9
      rw [hvl] at g10
      rw [hvm] at g11
      rw [hvb] at g12
      generalize splitB p q l i (i + 1) = sp at *
      generalize matP p l 0 i = x at *
      generalize matP q l 0 i = y at *
      generalize matP (.mk 6 [] [] [p]) l 0 i = pl at *
      have dj : ∀ n g, CallD P fm _ ⟨n, g⟩ [] _ := fun n g => CallD.kl kj (cc cj) (closed_B _)
      have do_ : ∀ n g, CallD P fm _ ⟨n, g⟩ [] _ := fun n g => CallD.kl ko (cc co) (closed_B _)
      have ds : ∀ n g, CallD P fm _ ⟨n, g⟩ [] _ := fun n g => CallD.kl ks (cc cs) (closed_B _)
      have dl : ∀ n g, CallD P fm _ ⟨n, g⟩ [] _ := fun n g => CallD.kl kl (cc cl) (closed_B _)
      have dm : ∀ n g, CallD P fm _ ⟨n, g⟩ [] _ := fun n g => CallD.kl km (cc cm) (closed_B _)
      have db : ∀ n g, CallD P fm _ ⟨n, g⟩ [] _ := fun n g => CallD.kl kb (cc cb) (closed_B _)
      have zs : ∀ z : Bool, (z != z) = false := fun z => by simp
      have fin : ∀ (f' : AF) (S' : St), (∀ j, j = 2 ∨ j = 3 ∨ j = 4 ∨ j = 7 ∨ j = 8 ∨ j = 9 ∨ j = 10 ∨ j = 11 ∨ j = 12 → f' j = f j) → S'.g = S.g → f' 13 = encI ((i : Int) + 1) → RkO l V b (i + 1) f' S' := fun f' S' h1 h2 h3 => ⟨hs.same h1 h2, by rw [h3]; simp⟩
      clear hp hq hj ho hs5 hp6 hm7 hb kp kq kj ko ks kl km kb d1 d2
      by_cases hi0 : i = 0
      · subst hi0
        simp only [decide_true, Bool.or_true, Bool.true_or, Int.natCast_zero, Int.ofNat_zero, Int.ofNat_eq_natCast] at ds dm
        cases x with
        | true =>
          simp only [Bool.true_or] at do_
          simp [AW_seq, AW_reg, AW_regD, AW_block, AW_cond, AW_skip, AW_exit, AW_ret, AW_scp, condR_true, condR_false, AThen_normal, AThen_ret, AThen_exit, ABlock_normal, ABlock_ret, ABlock_exit, AScope_normal, AScope_ret, AScope_exit, RetK_ret, RetK_normal, retAV_one, retAV_two, retAV_three, retAV_nil, RG_nil, RG_op, RG_guard, gdR_tt, gdR_ff, gdR_tf, gdR_ft, gdR_un, RG_call, callQ_clo, contK_ap, opR_some, RD_nil, RD_op0, RD_op1, opD0_some, opD1_some, RD_call, callQD_clo, RD_guard, gdD_tt, gdD_ff, gdD_tf, gdD_ft, gdD_un, psh_nil, psh_cons, Apt_nil, Apt_nilT, Apt_true, Apt_false, Dis_def, runT_val, runT_rd, runT_wr, runT_new, runT_mv, ex, put_some, put_none, ev_t, ev_c, argF_zero, argF_succ, set_g, set_n, cells_v, cells_sl, cells_agg, cells_own, cells_ptr, cells_clo, cells_eptr, cells_mp, putc, exBslice, lfill, exField, exIdxV, exIdxP, exBox, exAlloc, exLoad, exStore, exFieldA, exIdxA, exLen, exPick, exUn, exBeq, exMM, exSeq, seqGo, exExt, binV, intOp, subc, AV.solid, S0, encI, encB, e2, e7, e8, e9, e10, e11, e12, e13, e14, e15, e16, g7, g8, g9, g10, g11, g12, encIs, zs]
          refine ⟨encB true, ⟨[], do_ _ _⟩, ?_⟩
          simp [AW_seq, AW_reg, AW_regD, AW_block, AW_cond, AW_skip, AW_exit, AW_ret, AW_scp, condR_true, condR_false, AThen_normal, AThen_ret, AThen_exit, ABlock_normal, ABlock_ret, ABlock_exit, AScope_normal, AScope_ret, AScope_exit, RetK_ret, RetK_normal, retAV_one, retAV_two, retAV_three, retAV_nil, RG_nil, RG_op, RG_guard, gdR_tt, gdR_ff, gdR_tf, gdR_ft, gdR_un, RG_call, callQ_clo, contK_ap, opR_some, RD_nil, RD_op0, RD_op1, opD0_some, opD1_some, RD_call, callQD_clo, RD_guard, gdD_tt, gdD_ff, gdD_tf, gdD_ft, gdD_un, psh_nil, psh_cons, Apt_nil, Apt_nilT, Apt_true, Apt_false, Dis_def, runT_val, runT_rd, runT_wr, runT_new, runT_mv, ex, put_some, put_none, ev_t, ev_c, argF_zero, argF_succ, set_g, set_n, cells_v, cells_sl, cells_agg, cells_own, cells_ptr, cells_clo, cells_eptr, cells_mp, putc, exBslice, lfill, exField, exIdxV, exIdxP, exBox, exAlloc, exLoad, exStore, exFieldA, exIdxA, exLen, exPick, exUn, exBeq, exMM, exSeq, seqGo, exExt, binV, intOp, subc, AV.solid, S0, encI, encB, e2, e7, e8, e9, e10, e11, e12, e13, e14, e15, e16, g7, g8, g9, g10, g11, g12, encIs, zs]
          refine ⟨encB true, ⟨[], dm _ _⟩, ?_⟩
          simp [AW_seq, AW_reg, AW_regD, AW_block, AW_cond, AW_skip, AW_exit, AW_ret, AW_scp, condR_true, condR_false, AThen_normal, AThen_ret, AThen_exit, ABlock_normal, ABlock_ret, ABlock_exit, AScope_normal, AScope_ret, AScope_exit, RetK_ret, RetK_normal, retAV_one, retAV_two, retAV_three, retAV_nil, RG_nil, RG_op, RG_guard, gdR_tt, gdR_ff, gdR_tf, gdR_ft, gdR_un, RG_call, callQ_clo, contK_ap, opR_some, RD_nil, RD_op0, RD_op1, opD0_some, opD1_some, RD_call, callQD_clo, RD_guard, gdD_tt, gdD_ff, gdD_tf, gdD_ft, gdD_un, psh_nil, psh_cons, Apt_nil, Apt_nilT, Apt_true, Apt_false, Dis_def, runT_val, runT_rd, runT_wr, runT_new, runT_mv, ex, put_some, put_none, ev_t, ev_c, argF_zero, argF_succ, set_g, set_n, cells_v, cells_sl, cells_agg, cells_own, cells_ptr, cells_clo, cells_eptr, cells_mp, putc, exBslice, lfill, exField, exIdxV, exIdxP, exBox, exAlloc, exLoad, exStore, exFieldA, exIdxA, exLen, exPick, exUn, exBeq, exMM, exSeq, seqGo, exExt, binV, intOp, subc, AV.solid, S0, encI, encB, e2, e7, e8, e9, e10, e11, e12, e13, e14, e15, e16, g7, g8, g9, g10, g11, g12, encIs, zs]
          refine ⟨encB sp, ⟨[], dj _ _⟩, ?_⟩
          simp [AW_seq, AW_reg, AW_regD, AW_block, AW_cond, AW_skip, AW_exit, AW_ret, AW_scp, condR_true, condR_false, AThen_normal, AThen_ret, AThen_exit, ABlock_normal, ABlock_ret, ABlock_exit, AScope_normal, AScope_ret, AScope_exit, RetK_ret, RetK_normal, retAV_one, retAV_two, retAV_three, retAV_nil, RG_nil, RG_op, RG_guard, gdR_tt, gdR_ff, gdR_tf, gdR_ft, gdR_un, RG_call, callQ_clo, contK_ap, opR_some, RD_nil, RD_op0, RD_op1, opD0_some, opD1_some, RD_call, callQD_clo, RD_guard, gdD_tt, gdD_ff, gdD_tf, gdD_ft, gdD_un, psh_nil, psh_cons, Apt_nil, Apt_nilT, Apt_true, Apt_false, Dis_def, runT_val, runT_rd, runT_wr, runT_new, runT_mv, ex, put_some, put_none, ev_t, ev_c, argF_zero, argF_succ, set_g, set_n, cells_v, cells_sl, cells_agg, cells_own, cells_ptr, cells_clo, cells_eptr, cells_mp, putc, exBslice, lfill, exField, exIdxV, exIdxP, exBox, exAlloc, exLoad, exStore, exFieldA, exIdxA, exLen, exPick, exUn, exBeq, exMM, exSeq, seqGo, exExt, binV, intOp, subc, AV.solid, S0, encI, encB, e2, e7, e8, e9, e10, e11, e12, e13, e14, e15, e16, g7, g8, g9, g10, g11, g12, encIs, zs]
          refine ⟨encB pl, ⟨[], dl _ _⟩, ?_⟩
          simp [AW_seq, AW_reg, AW_regD, AW_block, AW_cond, AW_skip, AW_exit, AW_ret, AW_scp, condR_true, condR_false, AThen_normal, AThen_ret, AThen_exit, ABlock_normal, ABlock_ret, ABlock_exit, AScope_normal, AScope_ret, AScope_exit, RetK_ret, RetK_normal, retAV_one, retAV_two, retAV_three, retAV_nil, RG_nil, RG_op, RG_guard, gdR_tt, gdR_ff, gdR_tf, gdR_ft, gdR_un, RG_call, callQ_clo, contK_ap, opR_some, RD_nil, RD_op0, RD_op1, opD0_some, opD1_some, RD_call, callQD_clo, RD_guard, gdD_tt, gdD_ff, gdD_tf, gdD_ft, gdD_un, psh_nil, psh_cons, Apt_nil, Apt_nilT, Apt_true, Apt_false, Dis_def, runT_val, runT_rd, runT_wr, runT_new, runT_mv, ex, put_some, put_none, ev_t, ev_c, argF_zero, argF_succ, set_g, set_n, cells_v, cells_sl, cells_agg, cells_own, cells_ptr, cells_clo, cells_eptr, cells_mp, putc, exBslice, lfill, exField, exIdxV, exIdxP, exBox, exAlloc, exLoad, exStore, exFieldA, exIdxA, exLen, exPick, exUn, exBeq, exMM, exSeq, seqGo, exExt, binV, intOp, subc, AV.solid, S0, encI, encB, e2, e7, e8, e9, e10, e11, e12, e13, e14, e15, e16, g7, g8, g9, g10, g11, g12, encIs, zs]
          refine ⟨encB pl, ⟨[], db _ _⟩, ?_⟩
          simp [AW_seq, AW_reg, AW_regD, AW_block, AW_cond, AW_skip, AW_exit, AW_ret, AW_scp, condR_true, condR_false, AThen_normal, AThen_ret, AThen_exit, ABlock_normal, ABlock_ret, ABlock_exit, AScope_normal, AScope_ret, AScope_exit, RetK_ret, RetK_normal, retAV_one, retAV_two, retAV_three, retAV_nil, RG_nil, RG_op, RG_guard, gdR_tt, gdR_ff, gdR_tf, gdR_ft, gdR_un, RG_call, callQ_clo, contK_ap, opR_some, RD_nil, RD_op0, RD_op1, opD0_some, opD1_some, RD_call, callQD_clo, RD_guard, gdD_tt, gdD_ff, gdD_tf, gdD_ft, gdD_un, psh_nil, psh_cons, Apt_nil, Apt_nilT, Apt_true, Apt_false, Dis_def, runT_val, runT_rd, runT_wr, runT_new, runT_mv, ex, put_some, put_none, ev_t, ev_c, argF_zero, argF_succ, set_g, set_n, cells_v, cells_sl, cells_agg, cells_own, cells_ptr, cells_clo, cells_eptr, cells_mp, putc, exBslice, lfill, exField, exIdxV, exIdxP, exBox, exAlloc, exLoad, exStore, exFieldA, exIdxA, exLen, exPick, exUn, exBeq, exMM, exSeq, seqGo, exExt, binV, intOp, subc, AV.solid, S0, encI, encB, e2, e7, e8, e9, e10, e11, e12, e13, e14, e15, e16, g7, g8, g9, g10, g11, g12, encIs, zs]
          refine ⟨encB true, ⟨[], ds _ _⟩, ?_⟩
          simp [AW_seq, AW_reg, AW_regD, AW_block, AW_cond, AW_skip, AW_exit, AW_ret, AW_scp, condR_true, condR_false, AThen_normal, AThen_ret, AThen_exit, ABlock_normal, ABlock_ret, ABlock_exit, AScope_normal, AScope_ret, AScope_exit, RetK_ret, RetK_normal, retAV_one, retAV_two, retAV_three, retAV_nil, RG_nil, RG_op, RG_guard, gdR_tt, gdR_ff, gdR_tf, gdR_ft, gdR_un, RG_call, callQ_clo, contK_ap, opR_some, RD_nil, RD_op0, RD_op1, opD0_some, opD1_some, RD_call, callQD_clo, RD_guard, gdD_tt, gdD_ff, gdD_tf, gdD_ft, gdD_un, psh_nil, psh_cons, Apt_nil, Apt_nilT, Apt_true, Apt_false, Dis_def, runT_val, runT_rd, runT_wr, runT_new, runT_mv, ex, put_some, put_none, ev_t, ev_c, argF_zero, argF_succ, set_g, set_n, cells_v, cells_sl, cells_agg, cells_own, cells_ptr, cells_clo, cells_eptr, cells_mp, putc, exBslice, lfill, exField, exIdxV, exIdxP, exBox, exAlloc, exLoad, exStore, exFieldA, exIdxA, exLen, exPick, exUn, exBeq, exMM, exSeq, seqGo, exExt, binV, intOp, subc, AV.solid, S0, encI, encB, e2, e7, e8, e9, e10, e11, e12, e13, e14, e15, e16, g7, g8, g9, g10, g11, g12, encIs, zs]
          rw [wrap_in _ (by omega)]
          refine ⟨by omega, fin _ _ (fun j hj => ?_) rfl ?_⟩
          · rcases hj with rfl | rfl | rfl | rfl | rfl | rfl | rfl | rfl | rfl <;> simp [put_some]
          · simp [put_some, encI]
        | false =>
          simp only [Bool.false_or] at do_
          simp [AW_seq, AW_reg, AW_regD, AW_block, AW_cond, AW_skip, AW_exit, AW_ret, AW_scp, condR_true, condR_false, AThen_normal, AThen_ret, AThen_exit, ABlock_normal, ABlock_ret, ABlock_exit, AScope_normal, AScope_ret, AScope_exit, RetK_ret, RetK_normal, retAV_one, retAV_two, retAV_three, retAV_nil, RG_nil, RG_op, RG_guard, gdR_tt, gdR_ff, gdR_tf, gdR_ft, gdR_un, RG_call, callQ_clo, contK_ap, opR_some, RD_nil, RD_op0, RD_op1, opD0_some, opD1_some, RD_call, callQD_clo, RD_guard, gdD_tt, gdD_ff, gdD_tf, gdD_ft, gdD_un, psh_nil, psh_cons, Apt_nil, Apt_nilT, Apt_true, Apt_false, Dis_def, runT_val, runT_rd, runT_wr, runT_new, runT_mv, ex, put_some, put_none, ev_t, ev_c, argF_zero, argF_succ, set_g, set_n, cells_v, cells_sl, cells_agg, cells_own, cells_ptr, cells_clo, cells_eptr, cells_mp, putc, exBslice, lfill, exField, exIdxV, exIdxP, exBox, exAlloc, exLoad, exStore, exFieldA, exIdxA, exLen, exPick, exUn, exBeq, exMM, exSeq, seqGo, exExt, binV, intOp, subc, AV.solid, S0, encI, encB, e2, e7, e8, e9, e10, e11, e12, e13, e14, e15, e16, g7, g8, g9, g10, g11, g12, encIs, zs]
          refine ⟨encB y, ⟨[], do_ _ _⟩, ?_⟩
          simp [AW_seq, AW_reg, AW_regD, AW_block, AW_cond, AW_skip, AW_exit, AW_ret, AW_scp, condR_true, condR_false, AThen_normal, AThen_ret, AThen_exit, ABlock_normal, ABlock_ret, ABlock_exit, AScope_normal, AScope_ret, AScope_exit, RetK_ret, RetK_normal, retAV_one, retAV_two, retAV_three, retAV_nil, RG_nil, RG_op, RG_guard, gdR_tt, gdR_ff, gdR_tf, gdR_ft, gdR_un, RG_call, callQ_clo, contK_ap, opR_some, RD_nil, RD_op0, RD_op1, opD0_some, opD1_some, RD_call, callQD_clo, RD_guard, gdD_tt, gdD_ff, gdD_tf, gdD_ft, gdD_un, psh_nil, psh_cons, Apt_nil, Apt_nilT, Apt_true, Apt_false, Dis_def, runT_val, runT_rd, runT_wr, runT_new, runT_mv, ex, put_some, put_none, ev_t, ev_c, argF_zero, argF_succ, set_g, set_n, cells_v, cells_sl, cells_agg, cells_own, cells_ptr, cells_clo, cells_eptr, cells_mp, putc, exBslice, lfill, exField, exIdxV, exIdxP, exBox, exAlloc, exLoad, exStore, exFieldA, exIdxA, exLen, exPick, exUn, exBeq, exMM, exSeq, seqGo, exExt, binV, intOp, subc, AV.solid, S0, encI, encB, e2, e7, e8, e9, e10, e11, e12, e13, e14, e15, e16, g7, g8, g9, g10, g11, g12, encIs, zs]
          refine ⟨encB true, ⟨[], dm _ _⟩, ?_⟩
          simp [AW_seq, AW_reg, AW_regD, AW_block, AW_cond, AW_skip, AW_exit, AW_ret, AW_scp, condR_true, condR_false, AThen_normal, AThen_ret, AThen_exit, ABlock_normal, ABlock_ret, ABlock_exit, AScope_normal, AScope_ret, AScope_exit, RetK_ret, RetK_normal, retAV_one, retAV_two, retAV_three, retAV_nil, RG_nil, RG_op, RG_guard, gdR_tt, gdR_ff, gdR_tf, gdR_ft, gdR_un, RG_call, callQ_clo, contK_ap, opR_some, RD_nil, RD_op0, RD_op1, opD0_some, opD1_some, RD_call, callQD_clo, RD_guard, gdD_tt, gdD_ff, gdD_tf, gdD_ft, gdD_un, psh_nil, psh_cons, Apt_nil, Apt_nilT, Apt_true, Apt_false, Dis_def, runT_val, runT_rd, runT_wr, runT_new, runT_mv, ex, put_some, put_none, ev_t, ev_c, argF_zero, argF_succ, set_g, set_n, cells_v, cells_sl, cells_agg, cells_own, cells_ptr, cells_clo, cells_eptr, cells_mp, putc, exBslice, lfill, exField, exIdxV, exIdxP, exBox, exAlloc, exLoad, exStore, exFieldA, exIdxA, exLen, exPick, exUn, exBeq, exMM, exSeq, seqGo, exExt, binV, intOp, subc, AV.solid, S0, encI, encB, e2, e7, e8, e9, e10, e11, e12, e13, e14, e15, e16, g7, g8, g9, g10, g11, g12, encIs, zs]
          refine ⟨encB sp, ⟨[], dj _ _⟩, ?_⟩
          simp [AW_seq, AW_reg, AW_regD, AW_block, AW_cond, AW_skip, AW_exit, AW_ret, AW_scp, condR_true, condR_false, AThen_normal, AThen_ret, AThen_exit, ABlock_normal, ABlock_ret, ABlock_exit, AScope_normal, AScope_ret, AScope_exit, RetK_ret, RetK_normal, retAV_one, retAV_two, retAV_three, retAV_nil, RG_nil, RG_op, RG_guard, gdR_tt, gdR_ff, gdR_tf, gdR_ft, gdR_un, RG_call, callQ_clo, contK_ap, opR_some, RD_nil, RD_op0, RD_op1, opD0_some, opD1_some, RD_call, callQD_clo, RD_guard, gdD_tt, gdD_ff, gdD_tf, gdD_ft, gdD_un, psh_nil, psh_cons, Apt_nil, Apt_nilT, Apt_true, Apt_false, Dis_def, runT_val, runT_rd, runT_wr, runT_new, runT_mv, ex, put_some, put_none, ev_t, ev_c, argF_zero, argF_succ, set_g, set_n, cells_v, cells_sl, cells_agg, cells_own, cells_ptr, cells_clo, cells_eptr, cells_mp, putc, exBslice, lfill, exField, exIdxV, exIdxP, exBox, exAlloc, exLoad, exStore, exFieldA, exIdxA, exLen, exPick, exUn, exBeq, exMM, exSeq, seqGo, exExt, binV, intOp, subc, AV.solid, S0, encI, encB, e2, e7, e8, e9, e10, e11, e12, e13, e14, e15, e16, g7, g8, g9, g10, g11, g12, encIs, zs]
          refine ⟨encB pl, ⟨[], dl _ _⟩, ?_⟩
          simp [AW_seq, AW_reg, AW_regD, AW_block, AW_cond, AW_skip, AW_exit, AW_ret, AW_scp, condR_true, condR_false, AThen_normal, AThen_ret, AThen_exit, ABlock_normal, ABlock_ret, ABlock_exit, AScope_normal, AScope_ret, AScope_exit, RetK_ret, RetK_normal, retAV_one, retAV_two, retAV_three, retAV_nil, RG_nil, RG_op, RG_guard, gdR_tt, gdR_ff, gdR_tf, gdR_ft, gdR_un, RG_call, callQ_clo, contK_ap, opR_some, RD_nil, RD_op0, RD_op1, opD0_some, opD1_some, RD_call, callQD_clo, RD_guard, gdD_tt, gdD_ff, gdD_tf, gdD_ft, gdD_un, psh_nil, psh_cons, Apt_nil, Apt_nilT, Apt_true, Apt_false, Dis_def, runT_val, runT_rd, runT_wr, runT_new, runT_mv, ex, put_some, put_none, ev_t, ev_c, argF_zero, argF_succ, set_g, set_n, cells_v, cells_sl, cells_agg, cells_own, cells_ptr, cells_clo, cells_eptr, cells_mp, putc, exBslice, lfill, exField, exIdxV, exIdxP, exBox, exAlloc, exLoad, exStore, exFieldA, exIdxA, exLen, exPick, exUn, exBeq, exMM, exSeq, seqGo, exExt, binV, intOp, subc, AV.solid, S0, encI, encB, e2, e7, e8, e9, e10, e11, e12, e13, e14, e15, e16, g7, g8, g9, g10, g11, g12, encIs, zs]
          refine ⟨encB pl, ⟨[], db _ _⟩, ?_⟩
          simp [AW_seq, AW_reg, AW_regD, AW_block, AW_cond, AW_skip, AW_exit, AW_ret, AW_scp, condR_true, condR_false, AThen_normal, AThen_ret, AThen_exit, ABlock_normal, ABlock_ret, ABlock_exit, AScope_normal, AScope_ret, AScope_exit, RetK_ret, RetK_normal, retAV_one, retAV_two, retAV_three, retAV_nil, RG_nil, RG_op, RG_guard, gdR_tt, gdR_ff, gdR_tf, gdR_ft, gdR_un, RG_call, callQ_clo, contK_ap, opR_some, RD_nil, RD_op0, RD_op1, opD0_some, opD1_some, RD_call, callQD_clo, RD_guard, gdD_tt, gdD_ff, gdD_tf, gdD_ft, gdD_un, psh_nil, psh_cons, Apt_nil, Apt_nilT, Apt_true, Apt_false, Dis_def, runT_val, runT_rd, runT_wr, runT_new, runT_mv, ex, put_some, put_none, ev_t, ev_c, argF_zero, argF_succ, set_g, set_n, cells_v, cells_sl, cells_agg, cells_own, cells_ptr, cells_clo, cells_eptr, cells_mp, putc, exBslice, lfill, exField, exIdxV, exIdxP, exBox, exAlloc, exLoad, exStore, exFieldA, exIdxA, exLen, exPick, exUn, exBeq, exMM, exSeq, seqGo, exExt, binV, intOp, subc, AV.solid, S0, encI, encB, e2, e7, e8, e9, e10, e11, e12, e13, e14, e15, e16, g7, g8, g9, g10, g11, g12, encIs, zs]
          refine ⟨encB true, ⟨[], ds _ _⟩, ?_⟩
          simp [AW_seq, AW_reg, AW_regD, AW_block, AW_cond, AW_skip, AW_exit, AW_ret, AW_scp, condR_true, condR_false, AThen_normal, AThen_ret, AThen_exit, ABlock_normal, ABlock_ret, ABlock_exit, AScope_normal, AScope_ret, AScope_exit, RetK_ret, RetK_normal, retAV_one, retAV_two, retAV_three, retAV_nil, RG_nil, RG_op, RG_guard, gdR_tt, gdR_ff, gdR_tf, gdR_ft, gdR_un, RG_call, callQ_clo, contK_ap, opR_some, RD_nil, RD_op0, RD_op1, opD0_some, opD1_some, RD_call, callQD_clo, RD_guard, gdD_tt, gdD_ff, gdD_tf, gdD_ft, gdD_un, psh_nil, psh_cons, Apt_nil, Apt_nilT, Apt_true, Apt_false, Dis_def, runT_val, runT_rd, runT_wr, runT_new, runT_mv, ex, put_some, put_none, ev_t, ev_c, argF_zero, argF_succ, set_g, set_n, cells_v, cells_sl, cells_agg, cells_own, cells_ptr, cells_clo, cells_eptr, cells_mp, putc, exBslice, lfill, exField, exIdxV, exIdxP, exBox, exAlloc, exLoad, exStore, exFieldA, exIdxA, exLen, exPick, exUn, exBeq, exMM, exSeq, seqGo, exExt, binV, intOp, subc, AV.solid, S0, encI, encB, e2, e7, e8, e9, e10, e11, e12, e13, e14, e15, e16, g7, g8, g9, g10, g11, g12, encIs, zs]
          rw [wrap_in _ (by omega)]
          refine ⟨by omega, fin _ _ (fun j hj => ?_) rfl ?_⟩
          · rcases hj with rfl | rfl | rfl | rfl | rfl | rfl | rfl | rfl | rfl <;> simp [put_some]
          · simp [put_some, encI]
      · have n1 : ((i : Int) == 0) = false := by simp; omega
        have n2 : ¬ ((i : Int) = 0) := by omega
        have n3 : decide ((i : Int) = 0) = false := by simp; omega
        simp only [n3, Bool.or_false, Bool.false_or] at ds dm
        cases x with
        | true =>
          simp only [Bool.true_or] at do_
          simp [AW_seq, AW_reg, AW_regD, AW_block, AW_cond, AW_skip, AW_exit, AW_ret, AW_scp, condR_true, condR_false, AThen_normal, AThen_ret, AThen_exit, ABlock_normal, ABlock_ret, ABlock_exit, AScope_normal, AScope_ret, AScope_exit, RetK_ret, RetK_normal, retAV_one, retAV_two, retAV_three, retAV_nil, RG_nil, RG_op, RG_guard, gdR_tt, gdR_ff, gdR_tf, gdR_ft, gdR_un, RG_call, callQ_clo, contK_ap, opR_some, RD_nil, RD_op0, RD_op1, opD0_some, opD1_some, RD_call, callQD_clo, RD_guard, gdD_tt, gdD_ff, gdD_tf, gdD_ft, gdD_un, psh_nil, psh_cons, Apt_nil, Apt_nilT, Apt_true, Apt_false, Dis_def, runT_val, runT_rd, runT_wr, runT_new, runT_mv, ex, put_some, put_none, ev_t, ev_c, argF_zero, argF_succ, set_g, set_n, cells_v, cells_sl, cells_agg, cells_own, cells_ptr, cells_clo, cells_eptr, cells_mp, putc, exBslice, lfill, exField, exIdxV, exIdxP, exBox, exAlloc, exLoad, exStore, exFieldA, exIdxA, exLen, exPick, exUn, exBeq, exMM, exSeq, seqGo, exExt, binV, intOp, subc, AV.solid, S0, encI, encB, e2, e7, e8, e9, e10, e11, e12, e13, e14, e15, e16, g7, g8, g9, g10, g11, g12, encIs, zs, n1, n2]
          refine ⟨encB true, ⟨[], do_ _ _⟩, ?_⟩
          simp [AW_seq, AW_reg, AW_regD, AW_block, AW_cond, AW_skip, AW_exit, AW_ret, AW_scp, condR_true, condR_false, AThen_normal, AThen_ret, AThen_exit, ABlock_normal, ABlock_ret, ABlock_exit, AScope_normal, AScope_ret, AScope_exit, RetK_ret, RetK_normal, retAV_one, retAV_two, retAV_three, retAV_nil, RG_nil, RG_op, RG_guard, gdR_tt, gdR_ff, gdR_tf, gdR_ft, gdR_un, RG_call, callQ_clo, contK_ap, opR_some, RD_nil, RD_op0, RD_op1, opD0_some, opD1_some, RD_call, callQD_clo, RD_guard, gdD_tt, gdD_ff, gdD_tf, gdD_ft, gdD_un, psh_nil, psh_cons, Apt_nil, Apt_nilT, Apt_true, Apt_false, Dis_def, runT_val, runT_rd, runT_wr, runT_new, runT_mv, ex, put_some, put_none, ev_t, ev_c, argF_zero, argF_succ, set_g, set_n, cells_v, cells_sl, cells_agg, cells_own, cells_ptr, cells_clo, cells_eptr, cells_mp, putc, exBslice, lfill, exField, exIdxV, exIdxP, exBox, exAlloc, exLoad, exStore, exFieldA, exIdxA, exLen, exPick, exUn, exBeq, exMM, exSeq, seqGo, exExt, binV, intOp, subc, AV.solid, S0, encI, encB, e2, e7, e8, e9, e10, e11, e12, e13, e14, e15, e16, g7, g8, g9, g10, g11, g12, encIs, zs, n1, n2]
          refine ⟨encB true, ⟨[], dm _ _⟩, ?_⟩
          simp [AW_seq, AW_reg, AW_regD, AW_block, AW_cond, AW_skip, AW_exit, AW_ret, AW_scp, condR_true, condR_false, AThen_normal, AThen_ret, AThen_exit, ABlock_normal, ABlock_ret, ABlock_exit, AScope_normal, AScope_ret, AScope_exit, RetK_ret, RetK_normal, retAV_one, retAV_two, retAV_three, retAV_nil, RG_nil, RG_op, RG_guard, gdR_tt, gdR_ff, gdR_tf, gdR_ft, gdR_un, RG_call, callQ_clo, contK_ap, opR_some, RD_nil, RD_op0, RD_op1, opD0_some, opD1_some, RD_call, callQD_clo, RD_guard, gdD_tt, gdD_ff, gdD_tf, gdD_ft, gdD_un, psh_nil, psh_cons, Apt_nil, Apt_nilT, Apt_true, Apt_false, Dis_def, runT_val, runT_rd, runT_wr, runT_new, runT_mv, ex, put_some, put_none, ev_t, ev_c, argF_zero, argF_succ, set_g, set_n, cells_v, cells_sl, cells_agg, cells_own, cells_ptr, cells_clo, cells_eptr, cells_mp, putc, exBslice, lfill, exField, exIdxV, exIdxP, exBox, exAlloc, exLoad, exStore, exFieldA, exIdxA, exLen, exPick, exUn, exBeq, exMM, exSeq, seqGo, exExt, binV, intOp, subc, AV.solid, S0, encI, encB, e2, e7, e8, e9, e10, e11, e12, e13, e14, e15, e16, g7, g8, g9, g10, g11, g12, encIs, zs, n1, n2]
          refine ⟨encB sp, ⟨[], dj _ _⟩, ?_⟩
          simp [AW_seq, AW_reg, AW_regD, AW_block, AW_cond, AW_skip, AW_exit, AW_ret, AW_scp, condR_true, condR_false, AThen_normal, AThen_ret, AThen_exit, ABlock_normal, ABlock_ret, ABlock_exit, AScope_normal, AScope_ret, AScope_exit, RetK_ret, RetK_normal, retAV_one, retAV_two, retAV_three, retAV_nil, RG_nil, RG_op, RG_guard, gdR_tt, gdR_ff, gdR_tf, gdR_ft, gdR_un, RG_call, callQ_clo, contK_ap, opR_some, RD_nil, RD_op0, RD_op1, opD0_some, opD1_some, RD_call, callQD_clo, RD_guard, gdD_tt, gdD_ff, gdD_tf, gdD_ft, gdD_un, psh_nil, psh_cons, Apt_nil, Apt_nilT, Apt_true, Apt_false, Dis_def, runT_val, runT_rd, runT_wr, runT_new, runT_mv, ex, put_some, put_none, ev_t, ev_c, argF_zero, argF_succ, set_g, set_n, cells_v, cells_sl, cells_agg, cells_own, cells_ptr, cells_clo, cells_eptr, cells_mp, putc, exBslice, lfill, exField, exIdxV, exIdxP, exBox, exAlloc, exLoad, exStore, exFieldA, exIdxA, exLen, exPick, exUn, exBeq, exMM, exSeq, seqGo, exExt, binV, intOp, subc, AV.solid, S0, encI, encB, e2, e7, e8, e9, e10, e11, e12, e13, e14, e15, e16, g7, g8, g9, g10, g11, g12, encIs, zs, n1, n2]
          refine ⟨encB pl, ⟨[], dl _ _⟩, ?_⟩
          simp [AW_seq, AW_reg, AW_regD, AW_block, AW_cond, AW_skip, AW_exit, AW_ret, AW_scp, condR_true, condR_false, AThen_normal, AThen_ret, AThen_exit, ABlock_normal, ABlock_ret, ABlock_exit, AScope_normal, AScope_ret, AScope_exit, RetK_ret, RetK_normal, retAV_one, retAV_two, retAV_three, retAV_nil, RG_nil, RG_op, RG_guard, gdR_tt, gdR_ff, gdR_tf, gdR_ft, gdR_un, RG_call, callQ_clo, contK_ap, opR_some, RD_nil, RD_op0, RD_op1, opD0_some, opD1_some, RD_call, callQD_clo, RD_guard, gdD_tt, gdD_ff, gdD_tf, gdD_ft, gdD_un, psh_nil, psh_cons, Apt_nil, Apt_nilT, Apt_true, Apt_false, Dis_def, runT_val, runT_rd, runT_wr, runT_new, runT_mv, ex, put_some, put_none, ev_t, ev_c, argF_zero, argF_succ, set_g, set_n, cells_v, cells_sl, cells_agg, cells_own, cells_ptr, cells_clo, cells_eptr, cells_mp, putc, exBslice, lfill, exField, exIdxV, exIdxP, exBox, exAlloc, exLoad, exStore, exFieldA, exIdxA, exLen, exPick, exUn, exBeq, exMM, exSeq, seqGo, exExt, binV, intOp, subc, AV.solid, S0, encI, encB, e2, e7, e8, e9, e10, e11, e12, e13, e14, e15, e16, g7, g8, g9, g10, g11, g12, encIs, zs, n1, n2]
          refine ⟨encB pl, ⟨[], db _ _⟩, ?_⟩
          simp [AW_seq, AW_reg, AW_regD, AW_block, AW_cond, AW_skip, AW_exit, AW_ret, AW_scp, condR_true, condR_false, AThen_normal, AThen_ret, AThen_exit, ABlock_normal, ABlock_ret, ABlock_exit, AScope_normal, AScope_ret, AScope_exit, RetK_ret, RetK_normal, retAV_one, retAV_two, retAV_three, retAV_nil, RG_nil, RG_op, RG_guard, gdR_tt, gdR_ff, gdR_tf, gdR_ft, gdR_un, RG_call, callQ_clo, contK_ap, opR_some, RD_nil, RD_op0, RD_op1, opD0_some, opD1_some, RD_call, callQD_clo, RD_guard, gdD_tt, gdD_ff, gdD_tf, gdD_ft, gdD_un, psh_nil, psh_cons, Apt_nil, Apt_nilT, Apt_true, Apt_false, Dis_def, runT_val, runT_rd, runT_wr, runT_new, runT_mv, ex, put_some, put_none, ev_t, ev_c, argF_zero, argF_succ, set_g, set_n, cells_v, cells_sl, cells_agg, cells_own, cells_ptr, cells_clo, cells_eptr, cells_mp, putc, exBslice, lfill, exField, exIdxV, exIdxP, exBox, exAlloc, exLoad, exStore, exFieldA, exIdxA, exLen, exPick, exUn, exBeq, exMM, exSeq, seqGo, exExt, binV, intOp, subc, AV.solid, S0, encI, encB, e2, e7, e8, e9, e10, e11, e12, e13, e14, e15, e16, g7, g8, g9, g10, g11, g12, encIs, zs, n1, n2]
          refine ⟨encB pl, ⟨[], ds _ _⟩, ?_⟩
          simp [AW_seq, AW_reg, AW_regD, AW_block, AW_cond, AW_skip, AW_exit, AW_ret, AW_scp, condR_true, condR_false, AThen_normal, AThen_ret, AThen_exit, ABlock_normal, ABlock_ret, ABlock_exit, AScope_normal, AScope_ret, AScope_exit, RetK_ret, RetK_normal, retAV_one, retAV_two, retAV_three, retAV_nil, RG_nil, RG_op, RG_guard, gdR_tt, gdR_ff, gdR_tf, gdR_ft, gdR_un, RG_call, callQ_clo, contK_ap, opR_some, RD_nil, RD_op0, RD_op1, opD0_some, opD1_some, RD_call, callQD_clo, RD_guard, gdD_tt, gdD_ff, gdD_tf, gdD_ft, gdD_un, psh_nil, psh_cons, Apt_nil, Apt_nilT, Apt_true, Apt_false, Dis_def, runT_val, runT_rd, runT_wr, runT_new, runT_mv, ex, put_some, put_none, ev_t, ev_c, argF_zero, argF_succ, set_g, set_n, cells_v, cells_sl, cells_agg, cells_own, cells_ptr, cells_clo, cells_eptr, cells_mp, putc, exBslice, lfill, exField, exIdxV, exIdxP, exBox, exAlloc, exLoad, exStore, exFieldA, exIdxA, exLen, exPick, exUn, exBeq, exMM, exSeq, seqGo, exExt, binV, intOp, subc, AV.solid, S0, encI, encB, e2, e7, e8, e9, e10, e11, e12, e13, e14, e15, e16, g7, g8, g9, g10, g11, g12, encIs, zs, n1, n2]
          refine ⟨encB pl, ⟨[], dl _ _⟩, ?_⟩
          simp [AW_seq, AW_reg, AW_regD, AW_block, AW_cond, AW_skip, AW_exit, AW_ret, AW_scp, condR_true, condR_false, AThen_normal, AThen_ret, AThen_exit, ABlock_normal, ABlock_ret, ABlock_exit, AScope_normal, AScope_ret, AScope_exit, RetK_ret, RetK_normal, retAV_one, retAV_two, retAV_three, retAV_nil, RG_nil, RG_op, RG_guard, gdR_tt, gdR_ff, gdR_tf, gdR_ft, gdR_un, RG_call, callQ_clo, contK_ap, opR_some, RD_nil, RD_op0, RD_op1, opD0_some, opD1_some, RD_call, callQD_clo, RD_guard, gdD_tt, gdD_ff, gdD_tf, gdD_ft, gdD_un, psh_nil, psh_cons, Apt_nil, Apt_nilT, Apt_true, Apt_false, Dis_def, runT_val, runT_rd, runT_wr, runT_new, runT_mv, ex, put_some, put_none, ev_t, ev_c, argF_zero, argF_succ, set_g, set_n, cells_v, cells_sl, cells_agg, cells_own, cells_ptr, cells_clo, cells_eptr, cells_mp, putc, exBslice, lfill, exField, exIdxV, exIdxP, exBox, exAlloc, exLoad, exStore, exFieldA, exIdxA, exLen, exPick, exUn, exBeq, exMM, exSeq, seqGo, exExt, binV, intOp, subc, AV.solid, S0, encI, encB, e2, e7, e8, e9, e10, e11, e12, e13, e14, e15, e16, g7, g8, g9, g10, g11, g12, encIs, zs, n1, n2]
          rw [wrap_in _ (by omega)]
          refine ⟨by omega, fin _ _ (fun j hj => ?_) rfl ?_⟩
          · rcases hj with rfl | rfl | rfl | rfl | rfl | rfl | rfl | rfl | rfl <;> simp [put_some]
          · simp [put_some, encI]
        | false =>
          simp only [Bool.false_or] at do_
          simp [AW_seq, AW_reg, AW_regD, AW_block, AW_cond, AW_skip, AW_exit, AW_ret, AW_scp, condR_true, condR_false, AThen_normal, AThen_ret, AThen_exit, ABlock_normal, ABlock_ret, ABlock_exit, AScope_normal, AScope_ret, AScope_exit, RetK_ret, RetK_normal, retAV_one, retAV_two, retAV_three, retAV_nil, RG_nil, RG_op, RG_guard, gdR_tt, gdR_ff, gdR_tf, gdR_ft, gdR_un, RG_call, callQ_clo, contK_ap, opR_some, RD_nil, RD_op0, RD_op1, opD0_some, opD1_some, RD_call, callQD_clo, RD_guard, gdD_tt, gdD_ff, gdD_tf, gdD_ft, gdD_un, psh_nil, psh_cons, Apt_nil, Apt_nilT, Apt_true, Apt_false, Dis_def, runT_val, runT_rd, runT_wr, runT_new, runT_mv, ex, put_some, put_none, ev_t, ev_c, argF_zero, argF_succ, set_g, set_n, cells_v, cells_sl, cells_agg, cells_own, cells_ptr, cells_clo, cells_eptr, cells_mp, putc, exBslice, lfill, exField, exIdxV, exIdxP, exBox, exAlloc, exLoad, exStore, exFieldA, exIdxA, exLen, exPick, exUn, exBeq, exMM, exSeq, seqGo, exExt, binV, intOp, subc, AV.solid, S0, encI, encB, e2, e7, e8, e9, e10, e11, e12, e13, e14, e15, e16, g7, g8, g9, g10, g11, g12, encIs, zs, n1, n2]
          refine ⟨encB y, ⟨[], do_ _ _⟩, ?_⟩
          simp [AW_seq, AW_reg, AW_regD, AW_block, AW_cond, AW_skip, AW_exit, AW_ret, AW_scp, condR_true, condR_false, AThen_normal, AThen_ret, AThen_exit, ABlock_normal, ABlock_ret, ABlock_exit, AScope_normal, AScope_ret, AScope_exit, RetK_ret, RetK_normal, retAV_one, retAV_two, retAV_three, retAV_nil, RG_nil, RG_op, RG_guard, gdR_tt, gdR_ff, gdR_tf, gdR_ft, gdR_un, RG_call, callQ_clo, contK_ap, opR_some, RD_nil, RD_op0, RD_op1, opD0_some, opD1_some, RD_call, callQD_clo, RD_guard, gdD_tt, gdD_ff, gdD_tf, gdD_ft, gdD_un, psh_nil, psh_cons, Apt_nil, Apt_nilT, Apt_true, Apt_false, Dis_def, runT_val, runT_rd, runT_wr, runT_new, runT_mv, ex, put_some, put_none, ev_t, ev_c, argF_zero, argF_succ, set_g, set_n, cells_v, cells_sl, cells_agg, cells_own, cells_ptr, cells_clo, cells_eptr, cells_mp, putc, exBslice, lfill, exField, exIdxV, exIdxP, exBox, exAlloc, exLoad, exStore, exFieldA, exIdxA, exLen, exPick, exUn, exBeq, exMM, exSeq, seqGo, exExt, binV, intOp, subc, AV.solid, S0, encI, encB, e2, e7, e8, e9, e10, e11, e12, e13, e14, e15, e16, g7, g8, g9, g10, g11, g12, encIs, zs, n1, n2]
          refine ⟨encB false, ⟨[], dm _ _⟩, ?_⟩
          simp [AW_seq, AW_reg, AW_regD, AW_block, AW_cond, AW_skip, AW_exit, AW_ret, AW_scp, condR_true, condR_false, AThen_normal, AThen_ret, AThen_exit, ABlock_normal, ABlock_ret, ABlock_exit, AScope_normal, AScope_ret, AScope_exit, RetK_ret, RetK_normal, retAV_one, retAV_two, retAV_three, retAV_nil, RG_nil, RG_op, RG_guard, gdR_tt, gdR_ff, gdR_tf, gdR_ft, gdR_un, RG_call, callQ_clo, contK_ap, opR_some, RD_nil, RD_op0, RD_op1, opD0_some, opD1_some, RD_call, callQD_clo, RD_guard, gdD_tt, gdD_ff, gdD_tf, gdD_ft, gdD_un, psh_nil, psh_cons, Apt_nil, Apt_nilT, Apt_true, Apt_false, Dis_def, runT_val, runT_rd, runT_wr, runT_new, runT_mv, ex, put_some, put_none, ev_t, ev_c, argF_zero, argF_succ, set_g, set_n, cells_v, cells_sl, cells_agg, cells_own, cells_ptr, cells_clo, cells_eptr, cells_mp, putc, exBslice, lfill, exField, exIdxV, exIdxP, exBox, exAlloc, exLoad, exStore, exFieldA, exIdxA, exLen, exPick, exUn, exBeq, exMM, exSeq, seqGo, exExt, binV, intOp, subc, AV.solid, S0, encI, encB, e2, e7, e8, e9, e10, e11, e12, e13, e14, e15, e16, g7, g8, g9, g10, g11, g12, encIs, zs, n1, n2]
          refine ⟨encB sp, ⟨[], dj _ _⟩, ?_⟩
          simp [AW_seq, AW_reg, AW_regD, AW_block, AW_cond, AW_skip, AW_exit, AW_ret, AW_scp, condR_true, condR_false, AThen_normal, AThen_ret, AThen_exit, ABlock_normal, ABlock_ret, ABlock_exit, AScope_normal, AScope_ret, AScope_exit, RetK_ret, RetK_normal, retAV_one, retAV_two, retAV_three, retAV_nil, RG_nil, RG_op, RG_guard, gdR_tt, gdR_ff, gdR_tf, gdR_ft, gdR_un, RG_call, callQ_clo, contK_ap, opR_some, RD_nil, RD_op0, RD_op1, opD0_some, opD1_some, RD_call, callQD_clo, RD_guard, gdD_tt, gdD_ff, gdD_tf, gdD_ft, gdD_un, psh_nil, psh_cons, Apt_nil, Apt_nilT, Apt_true, Apt_false, Dis_def, runT_val, runT_rd, runT_wr, runT_new, runT_mv, ex, put_some, put_none, ev_t, ev_c, argF_zero, argF_succ, set_g, set_n, cells_v, cells_sl, cells_agg, cells_own, cells_ptr, cells_clo, cells_eptr, cells_mp, putc, exBslice, lfill, exField, exIdxV, exIdxP, exBox, exAlloc, exLoad, exStore, exFieldA, exIdxA, exLen, exPick, exUn, exBeq, exMM, exSeq, seqGo, exExt, binV, intOp, subc, AV.solid, S0, encI, encB, e2, e7, e8, e9, e10, e11, e12, e13, e14, e15, e16, g7, g8, g9, g10, g11, g12, encIs, zs, n1, n2]
          refine ⟨encB pl, ⟨[], dl _ _⟩, ?_⟩
          simp [AW_seq, AW_reg, AW_regD, AW_block, AW_cond, AW_skip, AW_exit, AW_ret, AW_scp, condR_true, condR_false, AThen_normal, AThen_ret, AThen_exit, ABlock_normal, ABlock_ret, ABlock_exit, AScope_normal, AScope_ret, AScope_exit, RetK_ret, RetK_normal, retAV_one, retAV_two, retAV_three, retAV_nil, RG_nil, RG_op, RG_guard, gdR_tt, gdR_ff, gdR_tf, gdR_ft, gdR_un, RG_call, callQ_clo, contK_ap, opR_some, RD_nil, RD_op0, RD_op1, opD0_some, opD1_some, RD_call, callQD_clo, RD_guard, gdD_tt, gdD_ff, gdD_tf, gdD_ft, gdD_un, psh_nil, psh_cons, Apt_nil, Apt_nilT, Apt_true, Apt_false, Dis_def, runT_val, runT_rd, runT_wr, runT_new, runT_mv, ex, put_some, put_none, ev_t, ev_c, argF_zero, argF_succ, set_g, set_n, cells_v, cells_sl, cells_agg, cells_own, cells_ptr, cells_clo, cells_eptr, cells_mp, putc, exBslice, lfill, exField, exIdxV, exIdxP, exBox, exAlloc, exLoad, exStore, exFieldA, exIdxA, exLen, exPick, exUn, exBeq, exMM, exSeq, seqGo, exExt, binV, intOp, subc, AV.solid, S0, encI, encB, e2, e7, e8, e9, e10, e11, e12, e13, e14, e15, e16, g7, g8, g9, g10, g11, g12, encIs, zs, n1, n2]
          refine ⟨encB pl, ⟨[], db _ _⟩, ?_⟩
          simp [AW_seq, AW_reg, AW_regD, AW_block, AW_cond, AW_skip, AW_exit, AW_ret, AW_scp, condR_true, condR_false, AThen_normal, AThen_ret, AThen_exit, ABlock_normal, ABlock_ret, ABlock_exit, AScope_normal, AScope_ret, AScope_exit, RetK_ret, RetK_normal, retAV_one, retAV_two, retAV_three, retAV_nil, RG_nil, RG_op, RG_guard, gdR_tt, gdR_ff, gdR_tf, gdR_ft, gdR_un, RG_call, callQ_clo, contK_ap, opR_some, RD_nil, RD_op0, RD_op1, opD0_some, opD1_some, RD_call, callQD_clo, RD_guard, gdD_tt, gdD_ff, gdD_tf, gdD_ft, gdD_un, psh_nil, psh_cons, Apt_nil, Apt_nilT, Apt_true, Apt_false, Dis_def, runT_val, runT_rd, runT_wr, runT_new, runT_mv, ex, put_some, put_none, ev_t, ev_c, argF_zero, argF_succ, set_g, set_n, cells_v, cells_sl, cells_agg, cells_own, cells_ptr, cells_clo, cells_eptr, cells_mp, putc, exBslice, lfill, exField, exIdxV, exIdxP, exBox, exAlloc, exLoad, exStore, exFieldA, exIdxA, exLen, exPick, exUn, exBeq, exMM, exSeq, seqGo, exExt, binV, intOp, subc, AV.solid, S0, encI, encB, e2, e7, e8, e9, e10, e11, e12, e13, e14, e15, e16, g7, g8, g9, g10, g11, g12, encIs, zs, n1, n2]
          refine ⟨encB pl, ⟨[], ds _ _⟩, ?_⟩
          simp [AW_seq, AW_reg, AW_regD, AW_block, AW_cond, AW_skip, AW_exit, AW_ret, AW_scp, condR_true, condR_false, AThen_normal, AThen_ret, AThen_exit, ABlock_normal, ABlock_ret, ABlock_exit, AScope_normal, AScope_ret, AScope_exit, RetK_ret, RetK_normal, retAV_one, retAV_two, retAV_three, retAV_nil, RG_nil, RG_op, RG_guard, gdR_tt, gdR_ff, gdR_tf, gdR_ft, gdR_un, RG_call, callQ_clo, contK_ap, opR_some, RD_nil, RD_op0, RD_op1, opD0_some, opD1_some, RD_call, callQD_clo, RD_guard, gdD_tt, gdD_ff, gdD_tf, gdD_ft, gdD_un, psh_nil, psh_cons, Apt_nil, Apt_nilT, Apt_true, Apt_false, Dis_def, runT_val, runT_rd, runT_wr, runT_new, runT_mv, ex, put_some, put_none, ev_t, ev_c, argF_zero, argF_succ, set_g, set_n, cells_v, cells_sl, cells_agg, cells_own, cells_ptr, cells_clo, cells_eptr, cells_mp, putc, exBslice, lfill, exField, exIdxV, exIdxP, exBox, exAlloc, exLoad, exStore, exFieldA, exIdxA, exLen, exPick, exUn, exBeq, exMM, exSeq, seqGo, exExt, binV, intOp, subc, AV.solid, S0, encI, encB, e2, e7, e8, e9, e10, e11, e12, e13, e14, e15, e16, g7, g8, g9, g10, g11, g12, encIs, zs, n1, n2]
          refine ⟨encB pl, ⟨[], dl _ _⟩, ?_⟩
          simp [AW_seq, AW_reg, AW_regD, AW_block, AW_cond, AW_skip, AW_exit, AW_ret, AW_scp, condR_true, condR_false, AThen_normal, AThen_ret, AThen_exit, ABlock_normal, ABlock_ret, ABlock_exit, AScope_normal, AScope_ret, AScope_exit, RetK_ret, RetK_normal, retAV_one, retAV_two, retAV_three, retAV_nil, RG_nil, RG_op, RG_guard, gdR_tt, gdR_ff, gdR_tf, gdR_ft, gdR_un, RG_call, callQ_clo, contK_ap, opR_some, RD_nil, RD_op0, RD_op1, opD0_some, opD1_some, RD_call, callQD_clo, RD_guard, gdD_tt, gdD_ff, gdD_tf, gdD_ft, gdD_un, psh_nil, psh_cons, Apt_nil, Apt_nilT, Apt_true, Apt_false, Dis_def, runT_val, runT_rd, runT_wr, runT_new, runT_mv, ex, put_some, put_none, ev_t, ev_c, argF_zero, argF_succ, set_g, set_n, cells_v, cells_sl, cells_agg, cells_own, cells_ptr, cells_clo, cells_eptr, cells_mp, putc, exBslice, lfill, exField, exIdxV, exIdxP, exBox, exAlloc, exLoad, exStore, exFieldA, exIdxA, exLen, exPick, exUn, exBeq, exMM, exSeq, seqGo, exExt, binV, intOp, subc, AV.solid, S0, encI, encB, e2, e7, e8, e9, e10, e11, e12, e13, e14, e15, e16, g7, g8, g9, g10, g11, g12, encIs, zs, n1, n2]
          rw [wrap_in _ (by omega)]
          refine ⟨by omega, fin _ _ (fun j hj => ?_) rfl ?_⟩
          · rcases hj with rfl | rfl | rfl | rfl | rfl | rfl | rfl | rfl | rfl <;> simp [put_some]
          · simp [put_some, encI]
  · have hlt' : ¬ i ≤ l.length := by omega
    simp [AW_seq, AW_reg, AW_regD, AW_block, AW_cond, AW_skip, AW_exit, AW_ret, AW_scp, condR_true, condR_false, AThen_normal, AThen_ret, AThen_exit, ABlock_normal, ABlock_ret, ABlock_exit, AScope_normal, AScope_ret, AScope_exit, RetK_ret, RetK_normal, retAV_one, retAV_two, retAV_three, retAV_nil, RG_nil, RG_op, RG_guard, gdR_tt, gdR_ff, gdR_tf, gdR_ft, gdR_un, RG_call, callQ_clo, contK_ap, opR_some, RD_nil, RD_op0, RD_op1, opD0_some, opD1_some, RD_call, callQD_clo, RD_guard, gdD_tt, gdD_ff, gdD_tf, gdD_ft, gdD_un, psh_nil, psh_cons, Apt_nil, Apt_nilT, Apt_true, Apt_false, Dis_def, runT_val, runT_rd, runT_wr, runT_new, runT_mv, ex, put_some, put_none, ev_t, ev_c, argF_zero, argF_succ, set_g, set_n, cells_v, cells_sl, cells_agg, cells_own, cells_ptr, cells_clo, cells_eptr, cells_mp, putc, exBslice, lfill, exField, exIdxV, exIdxP, exBox, exAlloc, exLoad, exStore, exFieldA, exIdxA, exLen, exPick, exUn, exBeq, exMM, exSeq, seqGo, exExt, binV, intOp, subc, AV.solid, S0, encI, encB, e2, e13, encIs, hlt, hlt']
    exact hQ _ _
theorem wk_bP {k : Int} {xs : List AV} {ks : List Pat} (h : WkL xs (ks.map encPat)) : Wk (bP k xs) (encPat (.mk k [] [] ks)) := by
  rw [encPat_eq]
  exact .agg' (.cons (.refl _) (.cons (.sl' .nil) (.cons (.sl' .nil) (.cons (.sl' h) .nil))))
theorem RkC.of {P : Program} {fm : FuncId} {l : List Int} {v : AV} {p : Pat} (h : ∀ a b : Int, PureC P fm [encPat p, encIs l, encI a, encI b] (encB (matP p l a b))) (hw : Wk v (encPat p)) : RkC P fm l v p :=
  fun a b => (h a b).wk (.cons hw (.cons (.refl _) (.cons (.refl _) (.cons (.refl _) .nil))))
theorem closed_bP {k : Int} {xs : List AV} (h : ∀ y ∈ xs, Closed y) : Fm (bP k xs) :=
  ⟨.agg _ (cl_cons (closed_I k) (cl_cons (.sl _ _ (by simp)) (cl_cons (.sl _ _ (by simp)) (cl_cons (.sl _ _ h) cl_nil)))), _, _, _, _, rfl⟩
def rkB : Nat → Nat
  | 3 => 0 | 4 => 1 | 7 => 22 | 8 => 28 | 9 => 33 | 10 => 38 | 11 => 43 | 12 => 49 | _ => 0
theorem ReachKinds_body {P : Program} {fl fw fm : FuncId} (p q : Pat) (l : List Int) (hl : PureC P fl [] (encB true)) (w u : Int) (hw : PureC P fw [encPat p, encI 0] (encI w)) (hu : PureC P fw [encPat q, encI 0] (encI u))
    (H : w ≤ 200 → u ≤ 200 → l.length ≤ 15 → ∀ r : Pat, r ∈ [p, q, .mk 3 [] [] [p, q], .mk 4 [] [] [p, q], .mk 5 [] [] [p], .mk 6 [] [] [p], .mk 7 [] [] [p], .mk 3 [] [] [p, .mk 5 [] [] [p]]] → ∀ a b : Int, PureC P fm [encPat r, encIs l, encI a, encI b] (encB (matP r l a b))) :
    AW P (c_caesuralaw11_ReachKinds fl fw fm) (RetK [6] (FzK (encB true))) (argF [encPat p, encPat q, encIs l]) S0 := by
  obtain ⟨x1, x2, x3, x4, hx⟩ := encPat_4 p
  obtain ⟨y1, y2, y3, y4, hy⟩ := encPat_4 q
  have hc := closed_Pat p
  have hd := closed_Pat q
  rw [hx] at hw hc
  rw [hy] at hu hd
  simp only [encI] at hw hu
  simp [AW_seq, AW_reg, AW_regD, AW_block, AW_cond, AW_skip, AW_exit, AW_ret, AW_scp, condR_true, condR_false, AThen_normal, AThen_ret, AThen_exit, ABlock_normal, ABlock_ret, ABlock_exit, AScope_normal, AScope_ret, AScope_exit, RetK_ret, RetK_normal, retAV_one, retAV_two, retAV_three, retAV_nil, RG_nil, RG_op, RG_guard, gdR_tt, gdR_ff, gdR_tf, gdR_ft, gdR_un, RG_call, callQ_clo, contK_ap, opR_some, RD_nil, RD_op0, RD_op1, opD0_some, opD1_some, RD_call, callQD_clo, RD_guard, gdD_tt, gdD_ff, gdD_tf, gdD_ft, gdD_un, psh_nil, psh_cons, Apt_nil, Apt_nilT, Apt_true, Apt_false, Dis_def, runT_val, runT_rd, runT_wr, runT_new, runT_mv, ex, put_some, put_none, ev_t, ev_c, argF_zero, argF_succ, set_g, set_n, cells_v, cells_sl, cells_agg, cells_own, cells_ptr, cells_clo, cells_eptr, cells_mp, putc, exBslice, lfill, exField, exIdxV, exIdxP, exBox, exAlloc, exLoad, exStore, exFieldA, exIdxA, exLen, exPick, exUn, exBeq, exMM, exSeq, seqGo, exExt, binV, intOp, subc, AV.solid, S0, encI, encB, c_caesuralaw11_ReachKinds, hx, hy]
  refine CallR.pure hl cl_nil (closed_B _) ?_
  simp [AW_seq, AW_reg, AW_regD, AW_block, AW_cond, AW_skip, AW_exit, AW_ret, AW_scp, condR_true, condR_false, AThen_normal, AThen_ret, AThen_exit, ABlock_normal, ABlock_ret, ABlock_exit, AScope_normal, AScope_ret, AScope_exit, RetK_ret, RetK_normal, retAV_one, retAV_two, retAV_three, retAV_nil, RG_nil, RG_op, RG_guard, gdR_tt, gdR_ff, gdR_tf, gdR_ft, gdR_un, RG_call, callQ_clo, contK_ap, opR_some, RD_nil, RD_op0, RD_op1, opD0_some, opD1_some, RD_call, callQD_clo, RD_guard, gdD_tt, gdD_ff, gdD_tf, gdD_ft, gdD_un, psh_nil, psh_cons, Apt_nil, Apt_nilT, Apt_true, Apt_false, Dis_def, runT_val, runT_rd, runT_wr, runT_new, runT_mv, ex, put_some, put_none, ev_t, ev_c, argF_zero, argF_succ, set_g, set_n, cells_v, cells_sl, cells_agg, cells_own, cells_ptr, cells_clo, cells_eptr, cells_mp, putc, exBslice, lfill, exField, exIdxV, exIdxP, exBox, exAlloc, exLoad, exStore, exFieldA, exIdxA, exLen, exPick, exUn, exBeq, exMM, exSeq, seqGo, exExt, binV, intOp, subc, AV.solid, S0, encI, encB]
  refine CallR.pure hw (cl_cons hc (cl_cons (closed_I _) cl_nil)) (closed_I _) ?_
  by_cases h1 : 200 < w
  · simp [AW_seq, AW_reg, AW_regD, AW_block, AW_cond, AW_skip, AW_exit, AW_ret, AW_scp, condR_true, condR_false, AThen_normal, AThen_ret, AThen_exit, ABlock_normal, ABlock_ret, ABlock_exit, AScope_normal, AScope_ret, AScope_exit, RetK_ret, RetK_normal, retAV_one, retAV_two, retAV_three, retAV_nil, RG_nil, RG_op, RG_guard, gdR_tt, gdR_ff, gdR_tf, gdR_ft, gdR_un, RG_call, callQ_clo, contK_ap, opR_some, RD_nil, RD_op0, RD_op1, opD0_some, opD1_some, RD_call, callQD_clo, RD_guard, gdD_tt, gdD_ff, gdD_tf, gdD_ft, gdD_un, psh_nil, psh_cons, Apt_nil, Apt_nilT, Apt_true, Apt_false, Dis_def, runT_val, runT_rd, runT_wr, runT_new, runT_mv, ex, put_some, put_none, ev_t, ev_c, argF_zero, argF_succ, set_g, set_n, cells_v, cells_sl, cells_agg, cells_own, cells_ptr, cells_clo, cells_eptr, cells_mp, putc, exBslice, lfill, exField, exIdxV, exIdxP, exBox, exAlloc, exLoad, exStore, exFieldA, exIdxA, exLen, exPick, exUn, exBeq, exMM, exSeq, seqGo, exExt, binV, intOp, subc, AV.solid, S0, encI, encB, h1]
    exact FzK_B true _
  · simp [AW_seq, AW_reg, AW_regD, AW_block, AW_cond, AW_skip, AW_exit, AW_ret, AW_scp, condR_true, condR_false, AThen_normal, AThen_ret, AThen_exit, ABlock_normal, ABlock_ret, ABlock_exit, AScope_normal, AScope_ret, AScope_exit, RetK_ret, RetK_normal, retAV_one, retAV_two, retAV_three, retAV_nil, RG_nil, RG_op, RG_guard, gdR_tt, gdR_ff, gdR_tf, gdR_ft, gdR_un, RG_call, callQ_clo, contK_ap, opR_some, RD_nil, RD_op0, RD_op1, opD0_some, opD1_some, RD_call, callQD_clo, RD_guard, gdD_tt, gdD_ff, gdD_tf, gdD_ft, gdD_un, psh_nil, psh_cons, Apt_nil, Apt_nilT, Apt_true, Apt_false, Dis_def, runT_val, runT_rd, runT_wr, runT_new, runT_mv, ex, put_some, put_none, ev_t, ev_c, argF_zero, argF_succ, set_g, set_n, cells_v, cells_sl, cells_agg, cells_own, cells_ptr, cells_clo, cells_eptr, cells_mp, putc, exBslice, lfill, exField, exIdxV, exIdxP, exBox, exAlloc, exLoad, exStore, exFieldA, exIdxA, exLen, exPick, exUn, exBeq, exMM, exSeq, seqGo, exExt, binV, intOp, subc, AV.solid, S0, encI, encB, h1]
    refine CallR.pure hu (cl_cons hd (cl_cons (closed_I _) cl_nil)) (closed_I _) ?_
    by_cases h3 : 200 < u
    · simp [AW_seq, AW_reg, AW_regD, AW_block, AW_cond, AW_skip, AW_exit, AW_ret, AW_scp, condR_true, condR_false, AThen_normal, AThen_ret, AThen_exit, ABlock_normal, ABlock_ret, ABlock_exit, AScope_normal, AScope_ret, AScope_exit, RetK_ret, RetK_normal, retAV_one, retAV_two, retAV_three, retAV_nil, RG_nil, RG_op, RG_guard, gdR_tt, gdR_ff, gdR_tf, gdR_ft, gdR_un, RG_call, callQ_clo, contK_ap, opR_some, RD_nil, RD_op0, RD_op1, opD0_some, opD1_some, RD_call, callQD_clo, RD_guard, gdD_tt, gdD_ff, gdD_tf, gdD_ft, gdD_un, psh_nil, psh_cons, Apt_nil, Apt_nilT, Apt_true, Apt_false, Dis_def, runT_val, runT_rd, runT_wr, runT_new, runT_mv, ex, put_some, put_none, ev_t, ev_c, argF_zero, argF_succ, set_g, set_n, cells_v, cells_sl, cells_agg, cells_own, cells_ptr, cells_clo, cells_eptr, cells_mp, putc, exBslice, lfill, exField, exIdxV, exIdxP, exBox, exAlloc, exLoad, exStore, exFieldA, exIdxA, exLen, exPick, exUn, exBeq, exMM, exSeq, seqGo, exExt, binV, intOp, subc, AV.solid, S0, encI, encB, h3]
      exact FzK_B true _
    · by_cases h2 : (15 : Int) < l.length
      · have h2' : 15 < l.length := by omega
        simp [AW_seq, AW_reg, AW_regD, AW_block, AW_cond, AW_skip, AW_exit, AW_ret, AW_scp, condR_true, condR_false, AThen_normal, AThen_ret, AThen_exit, ABlock_normal, ABlock_ret, ABlock_exit, AScope_normal, AScope_ret, AScope_exit, RetK_ret, RetK_normal, retAV_one, retAV_two, retAV_three, retAV_nil, RG_nil, RG_op, RG_guard, gdR_tt, gdR_ff, gdR_tf, gdR_ft, gdR_un, RG_call, callQ_clo, contK_ap, opR_some, RD_nil, RD_op0, RD_op1, opD0_some, opD1_some, RD_call, callQD_clo, RD_guard, gdD_tt, gdD_ff, gdD_tf, gdD_ft, gdD_un, psh_nil, psh_cons, Apt_nil, Apt_nilT, Apt_true, Apt_false, Dis_def, runT_val, runT_rd, runT_wr, runT_new, runT_mv, ex, put_some, put_none, ev_t, ev_c, argF_zero, argF_succ, set_g, set_n, cells_v, cells_sl, cells_agg, cells_own, cells_ptr, cells_clo, cells_eptr, cells_mp, putc, exBslice, lfill, exField, exIdxV, exIdxP, exBox, exAlloc, exLoad, exStore, exFieldA, exIdxA, exLen, exPick, exUn, exBeq, exMM, exSeq, seqGo, exExt, binV, intOp, subc, AV.solid, S0, encI, encB, h3, h2, h2', encIs]
        exact FzK_B true _
      · have h2' : ¬ 15 < l.length := by omega
        have K := H (by omega) (by omega) (by omega)
        have fp : Fm (encPat p) := ⟨closed_Pat p, x1, x2, x3, x4, hx⟩
        have fq : Fm (encPat q) := ⟨closed_Pat q, y1, y2, y3, y4, hy⟩
        have c1 : ∀ y ∈ [encPat p], Closed y := cl_cons fp.1 cl_nil
        have c2 : ∀ y ∈ [encPat p, encPat q], Closed y := cl_cons fp.1 (cl_cons fq.1 cl_nil)
        have f5 : Fm (bP 5 [encPat p]) := closed_bP c1
        have w1 : WkL [encPat p] ([p].map encPat) := .refl _
        have w2 : WkL [encPat p, encPat q] ([p, q].map encPat) := .refl _
        have w5 : Wk (bP 5 [encPat p]) (encPat (.mk 5 [] [] [p])) := wk_bP w1
        have w3 : WkL [encPat p, bP 5 [encPat p]] ([p, .mk 5 [] [] [p]].map encPat) := .cons (.refl _) (.cons w5 .nil)
        simp [AW_seq, AW_reg, AW_regD, AW_block, AW_cond, AW_skip, AW_exit, AW_ret, AW_scp, condR_true, condR_false, AThen_normal, AThen_ret, AThen_exit, ABlock_normal, ABlock_ret, ABlock_exit, AScope_normal, AScope_ret, AScope_exit, RetK_ret, RetK_normal, retAV_one, retAV_two, retAV_three, retAV_nil, RG_nil, RG_op, RG_guard, gdR_tt, gdR_ff, gdR_tf, gdR_ft, gdR_un, RG_call, callQ_clo, contK_ap, opR_some, RD_nil, RD_op0, RD_op1, opD0_some, opD1_some, RD_call, callQD_clo, RD_guard, gdD_tt, gdD_ff, gdD_tf, gdD_ft, gdD_un, psh_nil, psh_cons, Apt_nil, Apt_nilT, Apt_true, Apt_false, Dis_def, runT_val, runT_rd, runT_wr, runT_new, runT_mv, ex, put_some, put_none, ev_t, ev_c, argF_zero, argF_succ, set_g, set_n, cells_v, cells_sl, cells_agg, cells_own, cells_ptr, cells_clo, cells_eptr, cells_mp, putc, exBslice, lfill, exField, exIdxV, exIdxP, exBox, exAlloc, exLoad, exStore, exFieldA, exIdxA, exLen, exPick, exUn, exBeq, exMM, exSeq, seqGo, exExt, binV, intOp, subc, AV.solid, S0, encI, encB, h3, h2, h2', encIs, exBuild, afill]
        refine rk_out (l := l) (p := p) (q := q) (V := ⟨encPat p, encPat q, bP 3 [encPat p, encPat q], bP 4 [encPat p, encPat q], bP 5 [encPat p], bP 6 [encPat p], bP 7 [encPat p], bP 3 [encPat p, bP 5 [encPat p]]⟩) (b := rkB)
          ⟨fp, fq, closed_bP c2, closed_bP c2, f5, closed_bP c1, closed_bP c1, closed_bP (cl_cons fp.1 (cl_cons f5.1 cl_nil))⟩ (by omega) (.of (K p (by simp)) (.refl _)) (.of (K q (by simp)) (.refl _)) (.of (K _ (by simp)) (wk_bP w2)) (.of (K _ (by simp)) (wk_bP w2)) (.of (K _ (by simp)) w5)
          (.of (K _ (by simp)) (wk_bP w1)) (.of (K _ (by simp)) (wk_bP w1)) (.of (K _ (by simp)) (wk_bP w3)) ⟨⟨?_, ?_, ?_, ?_, ?_, ?_, ?_, ?_, ?_, ?_, ?_, ?_, ?_, ?_, ?_, ?_, ?_⟩, ?_⟩ (fun f S => ?_)
        · simp [put_some, argF_zero, argF_succ, encIs]
        all_goals first
          | (simp [put_some, rkB]; done)
          | (simp [set_g, rkB, bP, hx, hy, encI]; done)
          | skip
        · simp [put_some, encI]
        · simp [AW_seq, AW_reg, AW_regD, AW_block, AW_cond, AW_skip, AW_exit, AW_ret, AW_scp, condR_true, condR_false, AThen_normal, AThen_ret, AThen_exit, ABlock_normal, ABlock_ret, ABlock_exit, AScope_normal, AScope_ret, AScope_exit, RetK_ret, RetK_normal, retAV_one, retAV_two, retAV_three, retAV_nil, RG_nil, RG_op, RG_guard, gdR_tt, gdR_ff, gdR_tf, gdR_ft, gdR_un, RG_call, callQ_clo, contK_ap, opR_some, RD_nil, RD_op0, RD_op1, opD0_some, opD1_some, RD_call, callQD_clo, RD_guard, gdD_tt, gdD_ff, gdD_tf, gdD_ft, gdD_un, psh_nil, psh_cons, Apt_nil, Apt_nilT, Apt_true, Apt_false, Dis_def, runT_val, runT_rd, runT_wr, runT_new, runT_mv, ex, put_some, put_none, ev_t, ev_c, argF_zero, argF_succ, set_g, set_n, cells_v, cells_sl, cells_agg, cells_own, cells_ptr, cells_clo, cells_eptr, cells_mp, putc, exBslice, lfill, exField, exIdxV, exIdxP, exBox, exAlloc, exLoad, exStore, exFieldA, exIdxA, exLen, exPick, exUn, exBeq, exMM, exSeq, seqGo, exExt, binV, intOp, subc, AV.solid, S0, encI, encB]
          exact FzK_B true _
end Go.Rf

