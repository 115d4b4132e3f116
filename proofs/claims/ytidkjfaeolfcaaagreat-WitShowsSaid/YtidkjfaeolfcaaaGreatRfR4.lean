import Derived.Test.YtidkjfaeolfcaaaGreatRfR1
import Derived.Test.YtidkjfaeolfcaaaGreatRfN1
import Derived.Test.YtidkjfaeolfcaaaGreatRfCell
import Derived.Test.YtidkjfaeolfcaaaGreatRfRun
/- Own work: each place once. -/
set_option linter.unusedVariables false
set_option linter.unusedSimpArgs false
namespace Go.Rf
open Go.RowKit

def c_reach_once_1 : AC :=
  (.seq (.reg none [
   ⟨(some 4), .load none (.t 1), none, none⟩,
   ⟨(some 5), .mv (.t 0), none, none⟩,
   ⟨(some 6), .look (.int .i64) (.v (.bool false)) false (.t 4) (.t 5), none, none⟩,
   ⟨(some 7), .un .not (.t 6), none, none⟩])
  (.cond (.t 7) (.seq (.reg none [
    ⟨(some 8), .load none (.t 1), none, none⟩,
    ⟨(some 9), .mv (.t 0), none, none⟩,
    ⟨none, .mset (.int .i64) (.t 8) (.t 9) (.c (.v (.bool true))), none, none⟩])
   (.reg none [
    ⟨(some 10), .load none (.t 2), none, none⟩,
    ⟨(some 11), .mv (.t 0), none, none⟩,
    ⟨(some 12), .bslice 1 1 (.v (.int .i64 0)) [(0, (.t 11))], none, none⟩,
    ⟨(some 13), .app 1 8 (.t 10) (.t 12), none, none⟩,
    ⟨none, .store 1 (.t 2) (.t 13), none, none⟩])) .skip))
def c_reach_once (f_reach_once_1 : FuncId) : AC :=
  (.seq (.reg none [
   ⟨(some 2), .mv (.c (.sl true [])), none, none⟩])
  (.seq (.reg none [
   ⟨(some 5), .mmk, none, none⟩,
   ⟨(some 3), .alloc (.v (.map none)) 1, none, none⟩,
   ⟨none, .store 1 (.t 3) (.t 5), none, none⟩])
  (.seq (.reg none [
   ⟨(some 4), .alloc (.sl true []) 1, none, none⟩])
  (.seq (.reg none [
   ⟨(some 6), .mv (.t 0), none, none⟩,
   ⟨(some 7), .mkf f_reach_once_1 [] [(.t 3), (.t 4)], none, none⟩,
   ⟨(some 8), .mv (.c .junk), none, (some ((.t 6), [(.t 7)]))⟩])
  (.seq (.reg none [
   ⟨(some 9), .load none (.t 4), none, none⟩,
   ⟨(some 2), .mv (.t 9), none, none⟩])
  .ret)))))
theorem Vec.cel {g : Nat → Option Blk} {v : AV} {es : Nat} {xs : List AV} (h : Vec g v es xs) : v.cells = [v] ∧ v.solid = true := by
  rcases h with ⟨rfl, _⟩ | ⟨_, _, _, rfl, _⟩ <;> exact ⟨rfl, rfl⟩
end Go.Rf


/- Own work: up to where a form matches, told. -/
set_option linter.unusedVariables false
set_option linter.unusedSimpArgs false
namespace Go.Rf
open Go.RowKit

def c_reach_walker_all_1 (f_reach_walker_from : FuncId) : AC :=
  (.seq (.reg none [
   ⟨(some 7), .load none (.t 1), none, none⟩,
   ⟨(some 8), .len (.t 7), none, none⟩,
   ⟨(some 9), .mv (.c (.v (.int .i64 0))), none, none⟩])
  (.block 0 (.loop (.seq (.reg none [
     ⟨(some 10), .bin .lss (.t 9) (.t 8), none, none⟩])
    (.seq (.cond (.t 10) .skip (.exit 0))
    (.seq (.block 1 (.seq (.reg none [
      ⟨(some 11), .idxA 1 (.t 7) (.t 9), none, none⟩,
      ⟨(some 12), .load none (.t 11), none, none⟩,
      ⟨(some 6), .mv (.t 12), none, none⟩])
     (.reg none [
      ⟨(some 13), .load (some 1) (.t 2), none, none⟩,
      ⟨(some 14), .load (some 4) (.t 3), none, none⟩,
      ⟨(some 15), .mv (.t 6), none, none⟩,
      ⟨(some 16), .mv (.t 0), none, none⟩,
      ⟨(some 17), .mv (.c .junk), none, (some ((.c (.clo f_reach_walker_from [] [])), [(.t 13), (.t 14), (.t 15), (.t 16)]))⟩])))
    (.reg none [
     ⟨(some 18), .bin .add (.t 9) (.c (.v (.int .i64 1))), none, none⟩,
     ⟨(some 9), .mv (.t 18), none, none⟩])))))))
def c_all_in (f_reach_walker_all_1 f_reach_once : FuncId) : AC :=
  (.block 0 (.loop (.seq (.reg none [
     ⟨(some 18), .bin .lss (.t 17) (.t 16), none, none⟩])
    (.seq (.cond (.t 18) .skip (.exit 0))
    (.seq (.block 1 (.seq (.reg none [
      ⟨(some 19), .idxA 4 (.t 15) (.t 17), none, none⟩,
      ⟨(some 20), .load (some 4) (.t 19), none, none⟩,
      ⟨(some 10), .alloc (.agg [(.v (.int .i64 0)), (.sl true []), (.sl true []), (.sl true [])]) 4, none, none⟩,
      ⟨none, .store 4 (.t 10) (.t 20), none, none⟩])
     (.reg none [
      ⟨(some 21), .mkf f_reach_walker_all_1 [] [(.t 8), (.t 4), (.t 10)], none, none⟩,
      ⟨(some 22), .mv (.c .junk), none, (some ((.c (.clo f_reach_once [] [])), [(.t 21)]))⟩,
      ⟨none, .store 1 (.t 8) (.t 22), none, none⟩])))
    (.reg none [
     ⟨(some 23), .bin .add (.t 17) (.c (.v (.int .i64 1))), none, none⟩,
     ⟨(some 17), .mv (.t 23), none, none⟩]))))))
def c_all_out : AC :=
  (.block 2 (.loop (.seq (.reg none [
     ⟨(some 27), .bin .lss (.t 26) (.t 25), none, none⟩])
    (.seq (.cond (.t 27) .skip (.exit 2))
    (.seq (.block 3 (.seq (.reg none [
      ⟨(some 28), .idxA 1 (.t 24) (.t 26), none, none⟩,
      ⟨(some 29), .load none (.t 28), none, none⟩,
      ⟨(some 12), .mv (.t 29), none, none⟩])
     (.reg none [
      ⟨(some 30), .mv (.t 3), none, none⟩,
      ⟨(some 31), .mv (.t 12), none, none⟩,
      ⟨(some 32), .mv (.c .junk), none, (some ((.t 30), [(.t 31)]))⟩])))
    (.reg none [
     ⟨(some 33), .bin .add (.t 26) (.c (.v (.int .i64 1))), none, none⟩,
     ⟨(some 26), .mv (.t 33), none, none⟩]))))))
def c_reach_walker_all (f_reach_walker_all_1 f_reach_once : FuncId) : AC :=
  (.seq (.reg none [
   ⟨(some 4), .box 1 (.t 0), none, none⟩])
  (.seq (.reg none [
   ⟨(some 13), .mv (.t 2), none, none⟩,
   ⟨(some 14), .bslice 1 1 (.v (.int .i64 0)) [(0, (.t 13))], none, none⟩,
   ⟨(some 8), .alloc (.sl true []) 1, none, none⟩,
   ⟨none, .store 1 (.t 8) (.t 14), none, none⟩])
  (.seq (.seq (.reg none [
   ⟨(some 15), .mv (.t 1), none, none⟩,
   ⟨(some 16), .len (.t 15), none, none⟩,
   ⟨(some 17), .mv (.c (.v (.int .i64 0))), none, none⟩])
  (c_all_in f_reach_walker_all_1 f_reach_once))
  (.seq (.reg none [
   ⟨(some 24), .load none (.t 8), none, none⟩,
   ⟨(some 25), .len (.t 24), none, none⟩,
   ⟨(some 26), .mv (.c (.v (.int .i64 0))), none, none⟩])
  c_all_out))))
/-- A list, fixed or of one's own. -/
def LV (g : Nat → Option Blk) (v : AV) (xs : List AV) : Prop := (∃ t, v = .sl t xs) ∨ Vec g v 1 xs
theorem LV.frame {g g' : Nat → Option Blk} {v : AV} {xs : List AV} (h : LV g v xs) (hs : ∀ i ∈ v.ids, g' i = g i) : LV g' v xs := by
  rcases h with h | h
  · exact .inl h
  · exact .inr (h.frame hs)
theorem LV.cell {g : Nat → Option Blk} {v : AV} {xs : List AV} (h : LV g v xs) : v.cells = [v] ∧ v.solid = true := by
  rcases h with ⟨t, rfl⟩ | h
  · exact ⟨rfl, rfl⟩
  · exact h.cel
theorem LV.len {g : Nat → Option Blk} {v : AV} {xs : List AV} (h : LV g v xs) : exLen v = some (.v (.int .i64 xs.length)) := by
  rcases h with ⟨t, rfl⟩ | ⟨rfl, rfl⟩ | ⟨id, off, ys, rfl, _, _, _⟩ <;> rfl
structure A1S (l : List Int) (q : Pat) (b8 b4 b10 : Nat) (cv : AV) (cur : List Int) (tv : AV) (g : Nat → Option Blk) (N : Nat) (f : AF) (S : St) : Prop where
  e0 : f 0 = tv
  e2 : f 2 = .ptr b4 0 0
  e3 : f 3 = .ptr b10 0 0
  e7 : f 7 = cv
  e8 : f 8 = encI cur.length
  fr : ∀ i, i < N → S.g i = g i
  nn : N ≤ S.n
structure AllS (l : List Int) (ks : List Pat) (tv : AV) (b4 b8 : Nat) (Sz : St) (k : Nat) (f : AF) (S : St) : Prop where
  e3 : f 3 = tv
  e4 : f 4 = .ptr b4 0 0
  e8 : f 8 = .ptr b8 0 0
  e15 : f 15 = .sl false (ks.map encPat)
  e16 : f 16 = encI ks.length
  e17 : f 17 = encI k
  g4 : S.g b4 = some (.arr 1 [encW l])
  fr : ∀ i, i < Sz.n → S.g i = Sz.g i
  n4 : Sz.n ≤ b4 ∧ b4 < S.n
  n8 : Sz.n ≤ b8 ∧ b8 < S.n
  nn : Sz.n ≤ S.n
end Go.Rf


/- Own work: a form once, or as often as one likes. -/
set_option linter.unusedVariables false
set_option linter.unusedSimpArgs false
namespace Go.Rf
open Go.RowKit

def c_reach_walker_again_1 (f_reach_walker_from : FuncId) : AC :=
  (.regS [
   (0, ⟨(some 5), .load (some 1) (.t 1), none, none⟩, []),
   (1, ⟨(some 6), .fieldA 3 (.t 2), none, none⟩, []),
   (2, ⟨(some 7), .load none (.t 6), none, none⟩, []),
   (3, ⟨(some 8), .idxA 4 (.t 7) (.c (.v (.int .i64 0))), none, none⟩, []),
   (4, ⟨(some 9), .load (some 4) (.t 8), none, none⟩, []),
   (5, ⟨(some 10), .load none (.t 3), none, none⟩, []),
   (6, ⟨(some 11), .mv (.t 0), none, none⟩, []),
   (7, ⟨(some 12), .mv (.c .junk), none, (some ((.c (.clo f_reach_walker_from [] [])), [(.t 5), (.t 9), (.t 10), (.t 11)]))⟩, [])])
def c_ag_out : AC :=
  (.block 0 (.loop (.seq (.reg none [
      ⟨(some 26), .bin .lss (.t 25) (.t 24), none, none⟩])
     (.seq (.cond (.t 26) .skip (.exit 0))
     (.seq (.block 1 (.seq (.reg none [
       ⟨(some 27), .idxA 1 (.t 23) (.t 25), none, none⟩,
       ⟨(some 28), .load none (.t 27), none, none⟩,
       ⟨(some 10), .mv (.t 28), none, none⟩])
      (.reg none [
       ⟨(some 29), .mv (.t 3), none, none⟩,
       ⟨(some 30), .mv (.t 10), none, none⟩,
       ⟨(some 31), .mv (.c .junk), none, (some ((.t 29), [(.t 30)]))⟩])))
     (.reg none [
      ⟨(some 32), .bin .add (.t 25) (.c (.v (.int .i64 1))), none, none⟩,
      ⟨(some 25), .mv (.t 32), none, none⟩]))))))
def c_ag_loop (f_reach_walker_again_2 f_reach_walker_from : FuncId) : AC :=
  (.block 2 (.loop (.seq (.seq (.reg none [
     ⟨(some 33), .mv (.t 11), none, none⟩,
     ⟨(some 34), .load none (.t 8), none, none⟩,
     ⟨(some 35), .len (.t 34), none, none⟩,
     ⟨(some 36), .bin .lss (.t 33) (.t 35), none, none⟩])
    (.cond (.t 36) .skip (.exit 2)))
    (.seq (.block 3 (.seq (.reg none [
      ⟨(some 39), .mv (.t 3), none, none⟩,
      ⟨(some 40), .load none (.t 8), none, none⟩,
      ⟨(some 41), .mv (.t 11), none, none⟩,
      ⟨(some 42), .idxA 1 (.t 40) (.t 41), none, none⟩,
      ⟨(some 43), .load none (.t 42), none, none⟩,
      ⟨(some 44), .mv (.c .junk), none, (some ((.t 39), [(.t 43)]))⟩])
     (.regS [
      (0, ⟨(some 45), .load (some 1) (.t 4), none, none⟩, []),
      (1, ⟨(some 46), .fieldA 3 (.t 5), none, none⟩, []),
      (2, ⟨(some 47), .load none (.t 46), none, none⟩, []),
      (3, ⟨(some 48), .idxA 4 (.t 47) (.c (.v (.int .i64 0))), none, none⟩, []),
      (4, ⟨(some 49), .load (some 4) (.t 48), none, none⟩, []),
      (5, ⟨(some 50), .load none (.t 8), none, none⟩, []),
      (6, ⟨(some 51), .mv (.t 11), none, none⟩, []),
      (7, ⟨(some 52), .idxA 1 (.t 50) (.t 51), none, none⟩, []),
      (8, ⟨(some 53), .load none (.t 52), none, none⟩, []),
      (9, ⟨(some 54), .mkf f_reach_walker_again_2 [] [(.t 8)], none, none⟩, []),
      (10, ⟨(some 55), .mv (.c .junk), none, (some ((.c (.clo f_reach_walker_from [] [])), [(.t 45), (.t 49), (.t 53), (.t 54)]))⟩, [])])))
    (.reg none [
     ⟨(some 37), .mv (.t 11), none, none⟩,
     ⟨(some 38), .bin .add (.t 37) (.c (.v (.int .i64 1))), none, none⟩,
     ⟨(some 11), .mv (.t 38), none, none⟩])))))
def c_ag_tail (f_reach_walker_again_1 f_reach_once f_reach_walker_again_2 f_reach_walker_from : FuncId) : AC :=
  (.seq (.reg none [
   ⟨(some 18), .mkf f_reach_walker_again_1 [] [(.t 4), (.t 5), (.t 6)], none, none⟩,
   ⟨(some 19), .mv (.c .junk), none, (some ((.c (.clo f_reach_once [] [])), [(.t 18)]))⟩,
   ⟨(some 8), .alloc (.sl true []) 1, none, none⟩,
   ⟨none, .store 1 (.t 8) (.t 19), none, none⟩])
  (.seq (.seq (.reg none [
   ⟨(some 20), .fieldA 0 (.t 5), none, none⟩,
   ⟨(some 21), .load none (.t 20), none, none⟩,
   ⟨(some 22), .bin .eql (.t 21) (.c (.v (.int .i64 7))), none, none⟩])
  (.cond (.t 22) (.seq (.seq (.reg none [
    ⟨(some 23), .load none (.t 8), none, none⟩,
    ⟨(some 24), .len (.t 23), none, none⟩,
    ⟨(some 25), .mv (.c (.v (.int .i64 0))), none, none⟩])
   c_ag_out)
   .ret) .skip))
  (.seq (.reg none [
   ⟨(some 11), .mv (.c (.v (.int .i64 0))), none, none⟩])
  (c_ag_loop f_reach_walker_again_2 f_reach_walker_from))))
def c_reach_walker_again (f_reach_walker_again_1 f_reach_once f_reach_walker_again_2 f_reach_walker_from : FuncId) : AC :=
  (.seq (.reg none [
   ⟨(some 4), .box 1 (.t 0), none, none⟩,
   ⟨(some 5), .box 4 (.t 1), none, none⟩,
   ⟨(some 6), .box 1 (.t 2), none, none⟩])
  (.seq (.seq (.reg none [
   ⟨(some 12), .fieldA 0 (.t 5), none, none⟩,
   ⟨(some 13), .load none (.t 12), none, none⟩,
   ⟨(some 14), .bin .neq (.t 13) (.c (.v (.int .i64 6))), none, none⟩])
  (.cond (.t 14) (.reg none [
    ⟨(some 15), .mv (.t 3), none, none⟩,
    ⟨(some 16), .load none (.t 6), none, none⟩,
    ⟨(some 17), .mv (.c .junk), none, (some ((.t 15), [(.t 16)]))⟩]) .skip))
  (c_ag_tail f_reach_walker_again_1 f_reach_once f_reach_walker_again_2 f_reach_walker_from)))
def c_reach_walker_again_2 (f_slices_Contains_Sint_int_ : FuncId) : AC :=
  (.seq (.reg none [
   ⟨(some 3), .load none (.t 1), none, none⟩,
   ⟨(some 4), .mv (.t 0), none, none⟩,
   ⟨(some 5), .mv (.c .junk), none, (some ((.c (.clo f_slices_Contains_Sint_int_ [] [])), [(.t 3), (.t 4)]))⟩,
   ⟨(some 6), .un .not (.t 5), none, none⟩])
  (.cond (.t 6) (.reg none [
    ⟨(some 7), .load none (.t 1), none, none⟩,
    ⟨(some 8), .mv (.t 0), none, none⟩,
    ⟨(some 9), .bslice 1 1 (.v (.int .i64 0)) [(0, (.t 8))], none, none⟩,
    ⟨(some 10), .app 1 8 (.t 7) (.t 9), none, none⟩,
    ⟨none, .store 1 (.t 1) (.t 10), none, none⟩]) .skip))
structure AgS (l : List Int) (p : Pat) (tv : AV) (b4 b5 b8 : Nat) (Sz : St) (i : Nat) (f : AF) (S : St) : Prop where
  e3 : f 3 = tv
  e4 : f 4 = .ptr b4 0 0
  e5 : f 5 = .ptr b5 0 0
  e8 : f 8 = .ptr b8 0 0
  e11 : f 11 = encI i
  g4 : S.g b4 = some (.arr 1 [encW l])
  g5 : S.g b5 = some (.arr 4 [encPat p])
  n4 : Sz.n ≤ b4 ∧ b4 < S.n
  n5 : Sz.n ≤ b5 ∧ b5 < S.n
  n8 : Sz.n ≤ b8 ∧ b8 < S.n ∧ b8 ≠ b4 ∧ b8 ≠ b5
structure AgV (b4 b5 b8 : Nat) (Sz : St) (J : List Int → List Nat → St → Prop) (L : List Int) (A : List Nat) (met : List Int) (i : Nat) (cv : AV) (A' : List Nat) (S : St) : Prop where
  g8 : S.g b8 = some (.arr 1 [cv])
  vec : Vec S.g cv 1 (met.map encI)
  ids : ∀ j ∈ cv.ids, Sz.n ≤ j ∧ j < S.n ∧ j ≠ b4 ∧ j ≠ b5 ∧ j ≠ b8 ∧ j ∉ A'
  J : J (L ++ met.take i) A' S
  E : Ext A A' Sz S
  d4 : b4 ∉ A'
  d5 : b5 ∉ A'
  d8 : b8 ∉ A'
structure AgT (l : List Int) (p : Pat) (at_ : Int) (tv : AV) (b4 b5 b6 : Nat) (Sz : St) (f : AF) (S : St) : Prop where
  e3 : f 3 = tv
  e4 : f 4 = .ptr b4 0 0
  e5 : f 5 = .ptr b5 0 0
  e6 : f 6 = .ptr b6 0 0
  g4 : S.g b4 = some (.arr 1 [encW l])
  g5 : S.g b5 = some (.arr 4 [encPat p])
  g6 : S.g b6 = some (.arr 1 [encI at_])
  n4 : Sz.n ≤ b4 ∧ b4 < S.n
  n5 : Sz.n ≤ b5 ∧ b5 < S.n
  n6 : Sz.n ≤ b6 ∧ b6 < S.n
end Go.Rf

