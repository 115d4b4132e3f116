import Derived.Test.YtidkjfaeolfcaaaGreatRfB8
import Derived.Test.YtidkjfaeolfcaaaGreatRfCell
import Derived.Test.YtidkjfaeolfcaaaGreatRfKl
set_option linter.unusedVariables false
set_option linter.unusedSimpArgs false
namespace Go.Rf
def c_caesuraref01_Has : AC :=
  (.seq (.reg none [
   ⟨(some 4), .mv (.c (.v (.bool false))), none, none⟩])
  (.seq (.seq (.reg none [
   ⟨(some 6), .mv (.t 1), none, none⟩,
   ⟨(some 7), .bin .lss (.t 6) (.c (.v (.int .i64 0))), none, none⟩,
   ⟨(some 8), .mv (.t 7), none, none⟩,
   ⟨(some 9), .mv (.t 1), (some (8, false)), none⟩,
   ⟨(some 10), .bin .gtr (.t 9) (.c (.v (.int .i64 1114111))), (some (8, false)), none⟩,
   ⟨(some 11), .pick (.t 8) (.c (.v (.bool true))) (.t 10), none, none⟩,
   ⟨(some 12), .mv (.t 11), none, none⟩,
   ⟨(some 13), .mv (.t 0), (some (12, false)), none⟩,
   ⟨(some 14), .len (.t 13), (some (12, false)), none⟩,
   ⟨(some 15), .bin .gtr (.t 14) (.c (.v (.int .i64 400))), (some (12, false)), none⟩,
   ⟨(some 16), .pick (.t 12) (.c (.v (.bool true))) (.t 15), none, none⟩])
  (.cond (.t 16) (.seq (.reg none [
    ⟨(some 4), .mv (.c (.v (.bool false))), none, none⟩])
   .ret) .skip))
  (.seq (.seq (.reg none [
   ⟨(some 5), .mv (.c (.v (.int .i64 0))), none, none⟩])
  (.block 0 (.loop (.seq (.seq (.reg none [
     ⟨(some 17), .mv (.t 5), none, none⟩,
     ⟨(some 18), .mv (.t 0), none, none⟩,
     ⟨(some 19), .len (.t 18), none, none⟩,
     ⟨(some 20), .bin .lss (.t 17) (.t 19), none, none⟩])
    (.cond (.t 20) .skip (.exit 0)))
    (.seq (.block 1 (.seq (.reg none [
      ⟨(some 23), .mv (.t 1), none, none⟩,
      ⟨(some 24), .mv (.t 0), none, none⟩,
      ⟨(some 25), .mv (.t 5), none, none⟩,
      ⟨(some 26), .idxA 2 (.t 24) (.t 25), none, none⟩,
      ⟨(some 27), .fieldA 0 (.t 26), none, none⟩,
      ⟨(some 28), .load none (.t 27), none, none⟩,
      ⟨(some 29), .bin .geq (.t 23) (.t 28), none, none⟩,
      ⟨(some 30), .mv (.t 29), none, none⟩,
      ⟨(some 31), .mv (.t 1), (some (30, true)), none⟩,
      ⟨(some 32), .mv (.t 0), (some (30, true)), none⟩,
      ⟨(some 33), .mv (.t 5), (some (30, true)), none⟩,
      ⟨(some 34), .idxA 2 (.t 32) (.t 33), (some (30, true)), none⟩,
      ⟨(some 35), .fieldA 1 (.t 34), (some (30, true)), none⟩,
      ⟨(some 36), .load none (.t 35), (some (30, true)), none⟩,
      ⟨(some 37), .bin .leq (.t 31) (.t 36), (some (30, true)), none⟩,
      ⟨(some 38), .pick (.t 30) (.t 37) (.c (.v (.bool false))), none, none⟩])
     (.cond (.t 38) (.seq (.reg none [
       ⟨(some 4), .mv (.c (.v (.bool true))), none, none⟩])
      .ret) .skip)))
    (.reg none [
     ⟨(some 21), .mv (.t 5), none, none⟩,
     ⟨(some 22), .bin .add (.t 21) (.c (.v (.int .i64 1))), none, none⟩,
     ⟨(some 5), .mv (.t 22), none, none⟩]))))))
  (.seq (.reg none [
   ⟨(some 4), .mv (.c (.v (.bool false))), none, none⟩])
  .ret))))
def c_caesuraref01_Ranges : AC :=
  (.seq (.reg none [
   ⟨(some 4), .mv (.c (.v (.bool false))), none, none⟩])
  (.seq (.seq (.reg none [
   ⟨(some 6), .mv (.t 0), none, none⟩,
   ⟨(some 7), .len (.t 6), none, none⟩,
   ⟨(some 8), .mv (.t 1), none, none⟩,
   ⟨(some 9), .len (.t 8), none, none⟩,
   ⟨(some 10), .bin .neq (.t 7) (.t 9), none, none⟩])
  (.cond (.t 10) (.seq (.reg none [
    ⟨(some 4), .mv (.c (.v (.bool false))), none, none⟩])
   .ret) .skip))
  (.seq (.seq (.reg none [
   ⟨(some 5), .mv (.c (.v (.int .i64 0))), none, none⟩])
  (.block 0 (.loop (.seq (.seq (.reg none [
     ⟨(some 11), .mv (.t 5), none, none⟩,
     ⟨(some 12), .mv (.t 0), none, none⟩,
     ⟨(some 13), .len (.t 12), none, none⟩,
     ⟨(some 14), .bin .lss (.t 11) (.t 13), none, none⟩])
    (.cond (.t 14) .skip (.exit 0)))
    (.seq (.block 1 (.seq (.reg (some []) [
      ⟨(some 17), .mv (.t 0), none, none⟩,
      ⟨(some 18), .mv (.t 5), none, none⟩,
      ⟨(some 19), .idxA 2 (.t 17) (.t 18), none, none⟩,
      ⟨(some 20), .load (some 2) (.t 19), none, none⟩,
      ⟨(some 21), .mv (.t 1), none, none⟩,
      ⟨(some 22), .mv (.t 5), none, none⟩,
      ⟨(some 23), .idxA 2 (.t 21) (.t 22), none, none⟩,
      ⟨(some 24), .load (some 2) (.t 23), none, none⟩,
      ⟨(some 25), .seq true [0, 1] (.t 20) (.t 24), none, none⟩])
     (.cond (.t 25) (.seq (.reg none [
       ⟨(some 4), .mv (.c (.v (.bool false))), none, none⟩])
      .ret) .skip)))
    (.reg none [
     ⟨(some 15), .mv (.t 5), none, none⟩,
     ⟨(some 16), .bin .add (.t 15) (.c (.v (.int .i64 1))), none, none⟩,
     ⟨(some 5), .mv (.t 16), none, none⟩]))))))
  (.seq (.reg none [
   ⟨(some 4), .mv (.c (.v (.bool true))), none, none⟩])
  .ret))))
def c_put_loop : AC :=
  (.block 0 (.loop (.seq (.seq (.reg none [
     ⟨(some 6), .mv (.t 5), none, none⟩,
     ⟨(some 7), .mv (.t 0), none, none⟩,
     ⟨(some 8), .len (.t 7), none, none⟩,
     ⟨(some 9), .bin .lss (.t 6) (.t 8), none, none⟩,
     ⟨(some 10), .mv (.t 9), none, none⟩,
     ⟨(some 11), .mv (.t 0), (some (10, true)), none⟩,
     ⟨(some 12), .mv (.t 5), (some (10, true)), none⟩,
     ⟨(some 13), .idxA 1 (.t 11) (.t 12), (some (10, true)), none⟩,
     ⟨(some 14), .load none (.t 13), (some (10, true)), none⟩,
     ⟨(some 15), .mv (.t 1), (some (10, true)), none⟩,
     ⟨(some 16), .bin .lss (.t 14) (.t 15), (some (10, true)), none⟩,
     ⟨(some 17), .pick (.t 10) (.t 16) (.c (.v (.bool false))), none, none⟩])
    (.cond (.t 17) .skip (.exit 0)))
    (.block 1 (.reg none [
      ⟨(some 18), .mv (.t 5), none, none⟩,
      ⟨(some 19), .bin .add (.t 18) (.c (.v (.int .i64 1))), none, none⟩,
      ⟨(some 5), .mv (.t 19), none, none⟩])))))
def c_put_tail : AC :=
  (.seq (.reg (some [[], [], [], [], [], [true], [false, true], [], [true, false, false, true], [false, true, false, false, true], [false, false, true, false, false, true]]) [
   ⟨(some 33), .bslice 1 0 (.v (.int .i64 0)) [], none, none⟩,
   ⟨(some 34), .mv (.t 0), none, none⟩,
   ⟨(some 35), .mv (.t 5), none, none⟩,
   ⟨(some 36), .slc 1 (.t 34) none (some (.t 35)), none, none⟩,
   ⟨(some 37), .app 1 8 (.t 33) (.t 36), none, none⟩,
   ⟨(some 38), .mv (.t 1), none, none⟩,
   ⟨(some 39), .bslice 1 1 (.v (.int .i64 0)) [(0, (.t 38))], none, none⟩,
   ⟨(some 40), .app 1 8 (.t 37) (.t 39), none, none⟩,
   ⟨(some 41), .mv (.t 0), none, none⟩,
   ⟨(some 42), .mv (.t 5), none, none⟩,
   ⟨(some 43), .slc 1 (.t 41) (some (.t 42)) none, none, none⟩,
   ⟨(some 44), .app 1 8 (.t 40) (.t 43), none, none⟩,
   ⟨(some 4), .mv (.t 44), none, none⟩])
  .ret)
def c_caesuraref01_put : AC :=
  (.seq (.reg none [
   ⟨(some 4), .mv (.c (.sl true [])), none, none⟩])
  (.seq (.reg none [
   ⟨(some 5), .mv (.c (.v (.int .i64 0))), none, none⟩])
  (.seq c_put_loop
  (.seq (.seq (.reg none [
   ⟨(some 20), .mv (.t 5), none, none⟩,
   ⟨(some 21), .mv (.t 0), none, none⟩,
   ⟨(some 22), .len (.t 21), none, none⟩,
   ⟨(some 23), .bin .lss (.t 20) (.t 22), none, none⟩,
   ⟨(some 24), .mv (.t 23), none, none⟩,
   ⟨(some 25), .mv (.t 0), (some (24, true)), none⟩,
   ⟨(some 26), .mv (.t 5), (some (24, true)), none⟩,
   ⟨(some 27), .idxA 1 (.t 25) (.t 26), (some (24, true)), none⟩,
   ⟨(some 28), .load none (.t 27), (some (24, true)), none⟩,
   ⟨(some 29), .mv (.t 1), (some (24, true)), none⟩,
   ⟨(some 30), .bin .eql (.t 28) (.t 29), (some (24, true)), none⟩,
   ⟨(some 31), .pick (.t 24) (.t 30) (.c (.v (.bool false))), none, none⟩])
  (.cond (.t 31) (.seq (.reg none [
    ⟨(some 32), .mv (.t 0), none, none⟩,
    ⟨(some 4), .mv (.t 32), none, none⟩])
   .ret) .skip))
  c_put_tail))))
def c_e1 (f_caesuraref01_put : FuncId) : AC :=
  (.seq (.reg none [
         ⟨(some 38), .fieldA 0 (.t 6), none, none⟩,
         ⟨(some 39), .load none (.t 38), none, none⟩,
         ⟨(some 40), .bin .geq (.t 39) (.c (.v (.int .i64 0))), none, none⟩,
         ⟨(some 41), .mv (.t 40), none, none⟩,
         ⟨(some 42), .fieldA 0 (.t 6), (some (41, true)), none⟩,
         ⟨(some 43), .load none (.t 42), (some (41, true)), none⟩,
         ⟨(some 44), .bin .leq (.t 43) (.c (.v (.int .i64 1114111))), (some (41, true)), none⟩,
         ⟨(some 45), .pick (.t 41) (.t 44) (.c (.v (.bool false))), none, none⟩])
        (.cond (.t 45) (.reg none [
          ⟨(some 46), .mv (.t 3), none, none⟩,
          ⟨(some 47), .fieldA 0 (.t 6), none, none⟩,
          ⟨(some 48), .load none (.t 47), none, none⟩,
          ⟨(some 49), .mv (.c .junk), none, (some ((.c (.clo f_caesuraref01_put [] [])), [(.t 46), (.t 48)]))⟩,
          ⟨(some 3), .mv (.t 49), none, none⟩]) .skip))
def c_e2 (f_caesuraref01_put : FuncId) : AC :=
  (.seq (.reg none [
         ⟨(some 50), .fieldA 1 (.t 6), none, none⟩,
         ⟨(some 51), .load none (.t 50), none, none⟩,
         ⟨(some 52), .bin .geq (.t 51) (.c (.v (.int .i64 (-1)))), none, none⟩,
         ⟨(some 53), .mv (.t 52), none, none⟩,
         ⟨(some 54), .fieldA 1 (.t 6), (some (53, true)), none⟩,
         ⟨(some 55), .load none (.t 54), (some (53, true)), none⟩,
         ⟨(some 56), .bin .lss (.t 55) (.c (.v (.int .i64 1114111))), (some (53, true)), none⟩,
         ⟨(some 57), .pick (.t 53) (.t 56) (.c (.v (.bool false))), none, none⟩])
        (.cond (.t 57) (.reg none [
          ⟨(some 58), .mv (.t 3), none, none⟩,
          ⟨(some 59), .fieldA 1 (.t 6), none, none⟩,
          ⟨(some 60), .load none (.t 59), none, none⟩,
          ⟨(some 61), .bin .add (.t 60) (.c (.v (.int .i64 1))), none, none⟩,
          ⟨(some 62), .mv (.c .junk), none, (some ((.c (.clo f_caesuraref01_put [] [])), [(.t 58), (.t 61)]))⟩,
          ⟨(some 3), .mv (.t 62), none, none⟩]) .skip))
def c_ed_one (f_caesuraref01_put : FuncId) : AC :=
  (.block 3 (.seq (.reg none [
         ⟨(some 31), .mv (.t 0), none, none⟩,
         ⟨(some 32), .mv (.t 4), none, none⟩,
         ⟨(some 33), .idxA 1 (.t 31) (.t 32), none, none⟩,
         ⟨(some 34), .load none (.t 33), none, none⟩,
         ⟨(some 35), .mv (.t 5), none, none⟩,
         ⟨(some 36), .idxA 2 (.t 34) (.t 35), none, none⟩,
         ⟨(some 37), .load (some 2) (.t 36), none, none⟩,
         ⟨(some 6), .alloc (.agg [(.v (.int .i64 0)), (.v (.int .i64 0))]) 2, none, none⟩,
         ⟨none, .store 2 (.t 6) (.t 37), none, none⟩])
        (.seq (c_e1 f_caesuraref01_put)
        (c_e2 f_caesuraref01_put))))
def c_ed_in (f_caesuraref01_put : FuncId) : AC :=
  (.block 2 (.loop (.seq (.seq (.reg none [
        ⟨(some 14), .mv (.t 5), none, none⟩,
        ⟨(some 15), .mv (.t 0), none, none⟩,
        ⟨(some 16), .mv (.t 4), none, none⟩,
        ⟨(some 17), .idxA 1 (.t 15) (.t 16), none, none⟩,
        ⟨(some 18), .load none (.t 17), none, none⟩,
        ⟨(some 19), .len (.t 18), none, none⟩,
        ⟨(some 20), .bin .lss (.t 14) (.t 19), none, none⟩,
        ⟨(some 21), .mv (.t 20), none, none⟩,
        ⟨(some 22), .mv (.t 0), (some (21, true)), none⟩,
        ⟨(some 23), .mv (.t 4), (some (21, true)), none⟩,
        ⟨(some 24), .idxA 1 (.t 22) (.t 23), (some (21, true)), none⟩,
        ⟨(some 25), .load none (.t 24), (some (21, true)), none⟩,
        ⟨(some 26), .len (.t 25), (some (21, true)), none⟩,
        ⟨(some 27), .bin .leq (.t 26) (.c (.v (.int .i64 400))), (some (21, true)), none⟩,
        ⟨(some 28), .pick (.t 21) (.t 27) (.c (.v (.bool false))), none, none⟩])
       (.cond (.t 28) .skip (.exit 2)))
       (.seq (c_ed_one f_caesuraref01_put)
       (.reg none [
        ⟨(some 29), .mv (.t 5), none, none⟩,
        ⟨(some 30), .bin .add (.t 29) (.c (.v (.int .i64 1))), none, none⟩,
        ⟨(some 5), .mv (.t 30), none, none⟩])))))
def c_ed_out (f_caesuraref01_put : FuncId) : AC :=
  (.block 0 (.loop (.seq (.seq (.reg none [
     ⟨(some 8), .mv (.t 4), none, none⟩,
     ⟨(some 9), .mv (.t 0), none, none⟩,
     ⟨(some 10), .len (.t 9), none, none⟩,
     ⟨(some 11), .bin .lss (.t 8) (.t 10), none, none⟩])
    (.cond (.t 11) .skip (.exit 0)))
    (.seq (.block 1 (.seq (.reg none [
      ⟨(some 5), .mv (.c (.v (.int .i64 0))), none, none⟩])
     (c_ed_in f_caesuraref01_put)))
    (.reg none [
     ⟨(some 12), .mv (.t 4), none, none⟩,
     ⟨(some 13), .bin .add (.t 12) (.c (.v (.int .i64 1))), none, none⟩,
     ⟨(some 4), .mv (.t 13), none, none⟩])))))
def c_caesuraref01_Edges (f_caesuraref01_put : FuncId) : AC :=
  (.seq (.reg none [
   ⟨(some 2), .mv (.c (.sl true [])), none, none⟩])
  (.seq (.reg none [
   ⟨(some 7), .bslice 1 1 (.v (.int .i64 0)) [(0, (.c (.v (.int .i64 0))))], none, none⟩,
   ⟨(some 3), .mv (.t 7), none, none⟩])
  (.seq (.seq (.reg none [
   ⟨(some 4), .mv (.c (.v (.int .i64 0))), none, none⟩])
  (c_ed_out f_caesuraref01_put))
  (.seq (.reg none [
   ⟨(some 63), .mv (.t 3), none, none⟩,
   ⟨(some 2), .mv (.t 63), none, none⟩])
  .ret))))
/-! ### ranges -/
structure Rg where
  low : Int
  high : Int
deriving DecidableEq
def encR (r : Rg) : AV := .agg [encI r.low, encI r.high]
def encRs (l : List Rg) : AV := .sl false (l.map encR)
def encRss (l : List (List Rg)) : AV := .sl false (l.map encRs)
theorem closed_R (r : Rg) : Closed (encR r) := .agg _ (by
  intro y hy
  simp only [List.mem_cons, List.not_mem_nil, or_false] at hy
  rcases hy with rfl | rfl <;> exact Z2r _)
theorem closed_Rs (l : List Rg) : Closed (encRs l) := closed_map closed_R l
theorem closed_Rss (l : List (List Rg)) : Closed (encRss l) := closed_map closed_Rs l
def inR (r : Rg) (c : Int) : Bool := decide (r.low ≤ c) && decide (c ≤ r.high)
def hasIn (l : List Rg) (c : Int) : Bool := l.any fun r => inR r c
def hasR (l : List Rg) (c : Int) : Bool := decide (0 ≤ c) && decide (c ≤ 1114111) && decide (l.length ≤ 400) && hasIn l c
def haI (l : List Rg) (c : Int) (m : Nat) (f : AF) (S : St) : Prop :=
  ∃ i, i ≤ l.length ∧ m = l.length - i ∧ f 0 = encRs l ∧ f 1 = encI c ∧ f 5 = encI i ∧ ∀ k (hk : k < l.length), k < i → inR l[k] c = false
theorem caesuraref01_Has_body {P : Program} (l : List Rg) (c : Int) : AW P c_caesuraref01_Has (RetK [4] (FzK (encB (hasR l c)))) (argF [encRs l, encI c]) S0 := by
  by_cases h1 : c < 0
  · have hr : hasR l c = false := by unfold hasR; rw [decide_eq_false (by omega : ¬ 0 ≤ c)]; simp
    simp [Z0h, Z0c, Z0d, Z09, Z0a, Z0i, Z0b, Z0f, Z0g, Z2z, Z2y, Z07, Z08, Z06, Z01, Z02, Z00, Z04, Z05, Z03, Z1z, Z1y, Z46, Z48, Z47, Z45, Z1n, Z1o, Z1m, Z3n, Z3k, Z3m, Z3l, Z3o, Z1l, Z29, Z32, Z3x, Z1i, Z1j, Z1k, Z3v, Z3w, Z1g, Z28, Z1h, Z3i, Z3f, Z3h, Z3g, Z3j, Z41, Z40, Z0t, Z0u, Z0v, Z0s, Z1f, Z4c, Z4b, Z4d, Z4a, Z49, ex, Z43, Z42, ev_t, ev_c, Z27, Z26, Z4e, Z4f, Z2m, Z2l, Z2f, Z2j, Z2k, Z2g, Z2h, Z2i, putc, exBslice, lfill, exField, exIdxV, exIdxP, exBox, exAlloc, exLoad, exStore, exFieldA, exIdxA, exLen, exPick, exUn, exBeq, exMM, exSeq, seqGo, exExt, binV, intOp, subc, AV.solid, S0, encI, encB, c_caesuraref01_Has, encRs, h1, hr]
    exact FzK_B _ _
  · by_cases h2 : 1114111 < c
    · have hr : hasR l c = false := by unfold hasR; rw [decide_eq_false (by omega : ¬ c ≤ 1114111)]; simp
      simp [Z0h, Z0c, Z0d, Z09, Z0a, Z0i, Z0b, Z0f, Z0g, Z2z, Z2y, Z07, Z08, Z06, Z01, Z02, Z00, Z04, Z05, Z03, Z1z, Z1y, Z46, Z48, Z47, Z45, Z1n, Z1o, Z1m, Z3n, Z3k, Z3m, Z3l, Z3o, Z1l, Z29, Z32, Z3x, Z1i, Z1j, Z1k, Z3v, Z3w, Z1g, Z28, Z1h, Z3i, Z3f, Z3h, Z3g, Z3j, Z41, Z40, Z0t, Z0u, Z0v, Z0s, Z1f, Z4c, Z4b, Z4d, Z4a, Z49, ex, Z43, Z42, ev_t, ev_c, Z27, Z26, Z4e, Z4f, Z2m, Z2l, Z2f, Z2j, Z2k, Z2g, Z2h, Z2i, putc, exBslice, lfill, exField, exIdxV, exIdxP, exBox, exAlloc, exLoad, exStore, exFieldA, exIdxA, exLen, exPick, exUn, exBeq, exMM, exSeq, seqGo, exExt, binV, intOp, subc, AV.solid, S0, encI, encB, c_caesuraref01_Has, encRs, h1, h2, hr]
      exact FzK_B _ _
    · by_cases h3 : 400 < l.length
      · have h3' : (400 : Int) < l.length := by omega
        have hr : hasR l c = false := by unfold hasR; rw [decide_eq_false (by omega : ¬ l.length ≤ 400)]; simp
        simp [Z0h, Z0c, Z0d, Z09, Z0a, Z0i, Z0b, Z0f, Z0g, Z2z, Z2y, Z07, Z08, Z06, Z01, Z02, Z00, Z04, Z05, Z03, Z1z, Z1y, Z46, Z48, Z47, Z45, Z1n, Z1o, Z1m, Z3n, Z3k, Z3m, Z3l, Z3o, Z1l, Z29, Z32, Z3x, Z1i, Z1j, Z1k, Z3v, Z3w, Z1g, Z28, Z1h, Z3i, Z3f, Z3h, Z3g, Z3j, Z41, Z40, Z0t, Z0u, Z0v, Z0s, Z1f, Z4c, Z4b, Z4d, Z4a, Z49, ex, Z43, Z42, ev_t, ev_c, Z27, Z26, Z4e, Z4f, Z2m, Z2l, Z2f, Z2j, Z2k, Z2g, Z2h, Z2i, putc, exBslice, lfill, exField, exIdxV, exIdxP, exBox, exAlloc, exLoad, exStore, exFieldA, exIdxA, exLen, exPick, exUn, exBeq, exMM, exSeq, seqGo, exExt, binV, intOp, subc, AV.solid, S0, encI, encB, c_caesuraref01_Has, encRs, h1, h2, h3, h3', hr]
        exact FzK_B _ _
      · have h3' : ¬ (400 : Int) < l.length := by omega
        have hr : hasR l c = hasIn l c := by unfold hasR; rw [decide_eq_true (by omega : l.length ≤ 400), decide_eq_true (by omega : 0 ≤ c), decide_eq_true (by omega : c ≤ 1114111)]; simp
        rw [hr]
        simp [Z0h, Z0c, Z0d, Z09, Z0a, Z0i, Z0b, Z0f, Z0g, Z2z, Z2y, Z07, Z08, Z06, Z01, Z02, Z00, Z04, Z05, Z03, Z1z, Z1y, Z46, Z48, Z47, Z45, Z1n, Z1o, Z1m, Z3n, Z3k, Z3m, Z3l, Z3o, Z1l, Z29, Z32, Z3x, Z1i, Z1j, Z1k, Z3v, Z3w, Z1g, Z28, Z1h, Z3i, Z3f, Z3h, Z3g, Z3j, Z41, Z40, Z0t, Z0u, Z0v, Z0s, Z1f, Z4c, Z4b, Z4d, Z4a, Z49, ex, Z43, Z42, ev_t, ev_c, Z27, Z26, Z4e, Z4f, Z2m, Z2l, Z2f, Z2j, Z2k, Z2g, Z2h, Z2i, putc, exBslice, lfill, exField, exIdxV, exIdxP, exBox, exAlloc, exLoad, exStore, exFieldA, exIdxA, exLen, exPick, exUn, exBeq, exMM, exSeq, seqGo, exExt, binV, intOp, subc, AV.solid, S0, encI, encB, c_caesuraref01_Has, encRs, h1, h2, h3, h3']
        refine AW_loop (haI l c) l.length ?_ ?_
        · refine ⟨0, by omega, rfl, ?_, ?_, ?_, fun k _ hk => by omega⟩ <;> simp [Z43, Z27, Z26, encRs, encI]
        · rintro m f S ⟨i, hi, rfl, e0, e1, e5, hno⟩
          by_cases hlt : i < l.length
          · have hg : l[i]? = some l[i] := List.getElem?_eq_getElem hlt
            have hI : (i : Int) < l.length := by omega
            have hw : IntKind.i64.wrap ((i : Int) + 1) = (i : Int) + 1 := wrap_in _ (by omega)
            have next : ∀ {f' : AF} {S' : St}, f' 0 = encRs l → f' 1 = encI c → f' 5 = encI ((i : Int) + 1) → inR l[i] c = false → INext (haI l c) (l.length - i) f' S' := by
              intro f' S' q0 q1 q5 hz
              refine ⟨l.length - (i + 1), by omega, i + 1, by omega, rfl, q0, q1, by rw [q5]; simp [encI], fun k hkl hk => ?_⟩
              by_cases hki : k = i
              · subst hki; exact hz
              · exact hno k hkl (by omega)
            have hyes : inR l[i] c = true → hasIn l c = true := fun h => List.any_eq_true.mpr ⟨l[i], List.getElem_mem hlt, h⟩
            generalize hli : l[i] = r at *
            obtain ⟨lo, hi'⟩ := r
            by_cases k1 : lo ≤ c
            · by_cases k2 : c ≤ hi'
              · simp [Z0h, Z0c, Z0d, Z09, Z0a, Z0i, Z0b, Z0f, Z0g, Z2z, Z2y, Z07, Z08, Z06, Z01, Z02, Z00, Z04, Z05, Z03, Z1z, Z1y, Z46, Z48, Z47, Z45, Z1n, Z1o, Z1m, Z3n, Z3k, Z3m, Z3l, Z3o, Z1l, Z29, Z32, Z3x, Z1i, Z1j, Z1k, Z3v, Z3w, Z1g, Z28, Z1h, Z3i, Z3f, Z3h, Z3g, Z3j, Z41, Z40, Z0t, Z0u, Z0v, Z0s, Z1f, Z4c, Z4b, Z4d, Z4a, Z49, ex, Z43, Z42, ev_t, ev_c, Z27, Z26, Z4e, Z4f, Z2m, Z2l, Z2f, Z2j, Z2k, Z2g, Z2h, Z2i, putc, exBslice, lfill, exField, exIdxV, exIdxP, exBox, exAlloc, exLoad, exStore, exFieldA, exIdxA, exLen, exPick, exUn, exBeq, exMM, exSeq, seqGo, exExt, binV, intOp, subc, AV.solid, S0, encI, encB, e0, e1, e5, hI, hlt, hg, hli, encRs, encR, k1, k2]
                rw [hyes (by simp [inR, k1, k2])]
                exact FzK_B _ _
              · simp [Z0h, Z0c, Z0d, Z09, Z0a, Z0i, Z0b, Z0f, Z0g, Z2z, Z2y, Z07, Z08, Z06, Z01, Z02, Z00, Z04, Z05, Z03, Z1z, Z1y, Z46, Z48, Z47, Z45, Z1n, Z1o, Z1m, Z3n, Z3k, Z3m, Z3l, Z3o, Z1l, Z29, Z32, Z3x, Z1i, Z1j, Z1k, Z3v, Z3w, Z1g, Z28, Z1h, Z3i, Z3f, Z3h, Z3g, Z3j, Z41, Z40, Z0t, Z0u, Z0v, Z0s, Z1f, Z4c, Z4b, Z4d, Z4a, Z49, ex, Z43, Z42, ev_t, ev_c, Z27, Z26, Z4e, Z4f, Z2m, Z2l, Z2f, Z2j, Z2k, Z2g, Z2h, Z2i, putc, exBslice, lfill, exField, exIdxV, exIdxP, exBox, exAlloc, exLoad, exStore, exFieldA, exIdxA, exLen, exPick, exUn, exBeq, exMM, exSeq, seqGo, exExt, binV, intOp, subc, AV.solid, S0, encI, encB, e0, e1, e5, hI, hlt, hg, hli, encRs, encR, k1, k2, hw]
                refine next ?_ ?_ ?_ (by simp [inR, k2]) <;> simp [Z43, e0, e1, encRs, encI]
            · simp [Z0h, Z0c, Z0d, Z09, Z0a, Z0i, Z0b, Z0f, Z0g, Z2z, Z2y, Z07, Z08, Z06, Z01, Z02, Z00, Z04, Z05, Z03, Z1z, Z1y, Z46, Z48, Z47, Z45, Z1n, Z1o, Z1m, Z3n, Z3k, Z3m, Z3l, Z3o, Z1l, Z29, Z32, Z3x, Z1i, Z1j, Z1k, Z3v, Z3w, Z1g, Z28, Z1h, Z3i, Z3f, Z3h, Z3g, Z3j, Z41, Z40, Z0t, Z0u, Z0v, Z0s, Z1f, Z4c, Z4b, Z4d, Z4a, Z49, ex, Z43, Z42, ev_t, ev_c, Z27, Z26, Z4e, Z4f, Z2m, Z2l, Z2f, Z2j, Z2k, Z2g, Z2h, Z2i, putc, exBslice, lfill, exField, exIdxV, exIdxP, exBox, exAlloc, exLoad, exStore, exFieldA, exIdxA, exLen, exPick, exUn, exBeq, exMM, exSeq, seqGo, exExt, binV, intOp, subc, AV.solid, S0, encI, encB, e0, e1, e5, hI, hlt, hg, hli, encRs, encR, k1, hw]
              refine next ?_ ?_ ?_ (by simp [inR, k1]) <;> simp [Z43, e0, e1, encRs, encI]
          · have hI : ¬ (i : Int) < l.length := by omega
            have hno' : hasIn l c = false := List.any_eq_false.mpr (fun r hr => by
              obtain ⟨k, hk, rfl⟩ := List.mem_iff_getElem.mp hr
              rw [hno k hk (by omega)]; simp)
            simp [Z0h, Z0c, Z0d, Z09, Z0a, Z0i, Z0b, Z0f, Z0g, Z2z, Z2y, Z07, Z08, Z06, Z01, Z02, Z00, Z04, Z05, Z03, Z1z, Z1y, Z46, Z48, Z47, Z45, Z1n, Z1o, Z1m, Z3n, Z3k, Z3m, Z3l, Z3o, Z1l, Z29, Z32, Z3x, Z1i, Z1j, Z1k, Z3v, Z3w, Z1g, Z28, Z1h, Z3i, Z3f, Z3h, Z3g, Z3j, Z41, Z40, Z0t, Z0u, Z0v, Z0s, Z1f, Z4c, Z4b, Z4d, Z4a, Z49, ex, Z43, Z42, ev_t, ev_c, Z27, Z26, Z4e, Z4f, Z2m, Z2l, Z2f, Z2j, Z2k, Z2g, Z2h, Z2i, putc, exBslice, lfill, exField, exIdxV, exIdxP, exBox, exAlloc, exLoad, exStore, exFieldA, exIdxA, exLen, exPick, exUn, exBeq, exMM, exSeq, seqGo, exExt, binV, intOp, subc, AV.solid, S0, encI, encB, e0, e1, e5, hI, hlt, encRs, hno']
            exact FzK_B _ _
def raI (a b : List Rg) (m : Nat) (f : AF) (S : St) : Prop :=
  ∃ i, i ≤ a.length ∧ m = a.length - i ∧ f 0 = encRs a ∧ f 1 = encRs b ∧ f 5 = encI i ∧ ∀ k (h1 : k < a.length) (h2 : k < b.length), k < i → a[k] = b[k]
theorem caesuraref01_Ranges_body {P : Program} (a b : List Rg) (ha : a.length ≤ 100000) : AW P c_caesuraref01_Ranges (RetK [4] (FzK (encB (decide (a = b))))) (argF [encRs a, encRs b]) S0 := by
  by_cases hl : a.length = b.length
  · have hc : ((a.length : Int) != b.length) = false := by simp [hl]
    simp [Z0h, Z0c, Z0d, Z09, Z0a, Z0i, Z0b, Z0f, Z0g, Z2z, Z2y, Z07, Z08, Z06, Z01, Z02, Z00, Z04, Z05, Z03, Z1z, Z1y, Z46, Z48, Z47, Z45, Z1n, Z1o, Z1m, Z3n, Z3k, Z3m, Z3l, Z3o, Z1l, Z29, Z32, Z3x, Z1i, Z1j, Z1k, Z3v, Z3w, Z1g, Z28, Z1h, Z3i, Z3f, Z3h, Z3g, Z3j, Z41, Z40, Z0t, Z0u, Z0v, Z0s, Z1f, Z4c, Z4b, Z4d, Z4a, Z49, ex, Z43, Z42, ev_t, ev_c, Z27, Z26, Z4e, Z4f, Z2m, Z2l, Z2f, Z2j, Z2k, Z2g, Z2h, Z2i, putc, exBslice, lfill, exField, exIdxV, exIdxP, exBox, exAlloc, exLoad, exStore, exFieldA, exIdxA, exLen, exPick, exUn, exBeq, exMM, exSeq, seqGo, exExt, binV, intOp, subc, AV.solid, S0, encI, encB, c_caesuraref01_Ranges, encRs, hc]
    refine AW_loop (raI a b) a.length ?_ ?_
    · refine ⟨0, by omega, rfl, ?_, ?_, ?_, fun k _ _ hk => by omega⟩ <;> simp [Z43, Z27, Z26, encRs, encI]
    · rintro m f S ⟨i, hi, rfl, e0, e1, e5, hno⟩
      by_cases hlt : i < a.length
      · have hltb : i < b.length := by omega
        have hI : (i : Int) < a.length := by omega
        have hIb : (i : Int) < b.length := by omega
        have hga : a[i]? = some a[i] := List.getElem?_eq_getElem hlt
        have hgb : b[i]? = some b[i] := List.getElem?_eq_getElem hltb
        have hw : IntKind.i64.wrap ((i : Int) + 1) = (i : Int) + 1 := wrap_in _ (by omega)
        have next : ∀ {f' : AF} {S' : St}, f' 0 = encRs a → f' 1 = encRs b → f' 5 = encI ((i : Int) + 1) → a[i] = b[i] → INext (raI a b) (a.length - i) f' S' := by
          intro f' S' q0 q1 q5 hz
          refine ⟨a.length - (i + 1), by omega, i + 1, by omega, rfl, q0, q1, by rw [q5]; simp [encI], fun k h1 h2 hk => ?_⟩
          by_cases hki : k = i
          · subst hki; exact hz
          · exact hno k h1 h2 (by omega)
        have hne : a[i] ≠ b[i] → a ≠ b := fun h e => h (by subst e; rfl)
        generalize hai : a[i] = x at *
        generalize hbi : b[i] = y at *
        obtain ⟨x1, x2⟩ := x
        obtain ⟨y1, y2⟩ := y
        by_cases k1 : x1 = y1 <;> by_cases k2 : x2 = y2
        · subst k1 k2
          simp [Z0h, Z0c, Z0d, Z09, Z0a, Z0i, Z0b, Z0f, Z0g, Z2z, Z2y, Z07, Z08, Z06, Z01, Z02, Z00, Z04, Z05, Z03, Z1z, Z1y, Z46, Z48, Z47, Z45, Z1n, Z1o, Z1m, Z3n, Z3k, Z3m, Z3l, Z3o, Z1l, Z29, Z32, Z3x, Z1i, Z1j, Z1k, Z3v, Z3w, Z1g, Z28, Z1h, Z3i, Z3f, Z3h, Z3g, Z3j, Z41, Z40, Z0t, Z0u, Z0v, Z0s, Z1f, Z4c, Z4b, Z4d, Z4a, Z49, ex, Z43, Z42, ev_t, ev_c, Z27, Z26, Z4e, Z4f, Z2m, Z2l, Z2f, Z2j, Z2k, Z2g, Z2h, Z2i, putc, exBslice, lfill, exField, exIdxV, exIdxP, exBox, exAlloc, exLoad, exStore, exFieldA, exIdxA, exLen, exPick, exUn, exBeq, exMM, exSeq, seqGo, exExt, binV, intOp, subc, AV.solid, S0, encI, encB, e0, e1, e5, hI, hIb, hlt, hltb, hga, hgb, hai, hbi, encRs, encR, hw]
          refine next ?_ ?_ ?_ rfl <;> simp [Z43, e0, e1, encRs, encI]
        all_goals
          have hd : decide (a = b) = false := decide_eq_false (hne (by intro e; injection e with e1 e2; first | exact k1 e1 | exact k2 e2))
          simp [Z0h, Z0c, Z0d, Z09, Z0a, Z0i, Z0b, Z0f, Z0g, Z2z, Z2y, Z07, Z08, Z06, Z01, Z02, Z00, Z04, Z05, Z03, Z1z, Z1y, Z46, Z48, Z47, Z45, Z1n, Z1o, Z1m, Z3n, Z3k, Z3m, Z3l, Z3o, Z1l, Z29, Z32, Z3x, Z1i, Z1j, Z1k, Z3v, Z3w, Z1g, Z28, Z1h, Z3i, Z3f, Z3h, Z3g, Z3j, Z41, Z40, Z0t, Z0u, Z0v, Z0s, Z1f, Z4c, Z4b, Z4d, Z4a, Z49, ex, Z43, Z42, ev_t, ev_c, Z27, Z26, Z4e, Z4f, Z2m, Z2l, Z2f, Z2j, Z2k, Z2g, Z2h, Z2i, putc, exBslice, lfill, exField, exIdxV, exIdxP, exBox, exAlloc, exLoad, exStore, exFieldA, exIdxA, exLen, exPick, exUn, exBeq, exMM, exSeq, seqGo, exExt, binV, intOp, subc, AV.solid, S0, encI, encB, e0, e1, e5, hI, hIb, hlt, hltb, hga, hgb, hai, hbi, encRs, encR, k1, k2, hd]
          exact FzK_B _ _
      · have hI : ¬ (i : Int) < a.length := by omega
        have hd : decide (a = b) = true := decide_eq_true (List.ext_getElem hl (fun k h1 h2 => hno k h1 h2 (by omega)))
        simp [Z0h, Z0c, Z0d, Z09, Z0a, Z0i, Z0b, Z0f, Z0g, Z2z, Z2y, Z07, Z08, Z06, Z01, Z02, Z00, Z04, Z05, Z03, Z1z, Z1y, Z46, Z48, Z47, Z45, Z1n, Z1o, Z1m, Z3n, Z3k, Z3m, Z3l, Z3o, Z1l, Z29, Z32, Z3x, Z1i, Z1j, Z1k, Z3v, Z3w, Z1g, Z28, Z1h, Z3i, Z3f, Z3h, Z3g, Z3j, Z41, Z40, Z0t, Z0u, Z0v, Z0s, Z1f, Z4c, Z4b, Z4d, Z4a, Z49, ex, Z43, Z42, ev_t, ev_c, Z27, Z26, Z4e, Z4f, Z2m, Z2l, Z2f, Z2j, Z2k, Z2g, Z2h, Z2i, putc, exBslice, lfill, exField, exIdxV, exIdxP, exBox, exAlloc, exLoad, exStore, exFieldA, exIdxA, exLen, exPick, exUn, exBeq, exMM, exSeq, seqGo, exExt, binV, intOp, subc, AV.solid, S0, encI, encB, e0, e1, e5, hI, hlt, encRs, hd]
        exact FzK_B _ _
  · have hc : ((a.length : Int) != b.length) = true := by simp; omega
    have hd : decide (a = b) = false := decide_eq_false (fun e => hl (by rw [e]))
    simp [Z0h, Z0c, Z0d, Z09, Z0a, Z0i, Z0b, Z0f, Z0g, Z2z, Z2y, Z07, Z08, Z06, Z01, Z02, Z00, Z04, Z05, Z03, Z1z, Z1y, Z46, Z48, Z47, Z45, Z1n, Z1o, Z1m, Z3n, Z3k, Z3m, Z3l, Z3o, Z1l, Z29, Z32, Z3x, Z1i, Z1j, Z1k, Z3v, Z3w, Z1g, Z28, Z1h, Z3i, Z3f, Z3h, Z3g, Z3j, Z41, Z40, Z0t, Z0u, Z0v, Z0s, Z1f, Z4c, Z4b, Z4d, Z4a, Z49, ex, Z43, Z42, ev_t, ev_c, Z27, Z26, Z4e, Z4f, Z2m, Z2l, Z2f, Z2j, Z2k, Z2g, Z2h, Z2i, putc, exBslice, lfill, exField, exIdxV, exIdxP, exBox, exAlloc, exLoad, exStore, exFieldA, exIdxA, exLen, exPick, exUn, exBeq, exMM, exSeq, seqGo, exExt, binV, intOp, subc, AV.solid, S0, encI, encB, c_caesuraref01_Ranges, encRs, hc, hd]
    exact FzK_B _ _
theorem appT_nil {es by_ : Nat} {t : Bool} {S : St} {nid : Nat} : (exApp es by_ (.sl true []) (.sl t [])).runT S nid = if appOk by_ 0 0 then some (.sl true [], S, [], []) else none := by
  by_cases h : appOk by_ 0 0 <;> simp [exApp, Eff.runT, AV.oid, lstE, h, St.setL, St.setO]
theorem appT_sl {es by_ : Nat} {t : Bool} {ys : List AV} {S : St} {nid : Nat} (hy : ∀ z ∈ ys, z.cells.length = es) (h0 : 0 < ys.length) (hok : appOk by_ 0 ys.length) :
    (exApp es by_ (.sl true []) (.sl t ys)).runT S nid = some (.own nid 0 ys.length, S.set nid (some (.arr es ys)), [], [nid]) := by
  have hne : ¬ (ys = []) := by intro e; subst e; simp at h0
  have hz : ¬ (ys.length = 0) := by omega
  simp only [exApp, Eff.runT, AV.oid, List.mapM_nil, lstE]
  rw [if_pos hy]
  simp only [Option.pure_def, Option.bind_some, List.length_nil, Nat.zero_add, List.nil_append]
  rw [if_pos ⟨by simp, hok⟩, if_neg hz]
  simp [St.setL, St.setO]
theorem appT_own {es by_ id len : Nat} {t : Bool} {xs ys : List AV} {S : St} {nid : Nat} (hg : S.g id = some (.arr es xs)) (hl : len = xs.length) (hy : ∀ z ∈ ys, z.cells.length = es) (hok : appOk by_ len ys.length) :
    (exApp es by_ (.own id 0 len) (.sl t ys)).runT S nid = some (.own nid 0 (len + ys.length), (S.set id none).set nid (some (.arr es (xs ++ ys))), [id], [id, nid]) := by
  subst hl
  simp only [exApp, Eff.runT, AV.oid, List.mapM_cons, List.mapM_nil, hg, lstE]
  simp only [Option.pure_def, Option.bind_some, Option.bind_eq_bind]
  rw [if_pos hy]
  simp only [Option.bind_some, Nat.zero_add]
  rw [if_pos ⟨trivial, trivial, hok, by simp⟩]
  simp [St.setL, St.setO]
theorem app_own {es by_ id len : Nat} {t : Bool} {xs ys : List AV} {S : St} {nid : Nat} (hg : S.g id = some (.arr es xs)) (hl : len = xs.length) (hy : ∀ z ∈ ys, z.cells.length = es) (hok : appOk by_ len ys.length) :
    (exApp es by_ (.own id 0 len) (.sl t ys)).run S nid = some (.own nid 0 (len + ys.length), (S.set id none).set nid (some (.arr es (xs ++ ys)))) := by
  subst hl
  simp only [exApp, Eff.run, AV.oid, List.mapM_cons, List.mapM_nil, hg, lstE]
  simp only [Option.pure_def, Option.bind_some, Option.bind_eq_bind]
  rw [if_pos hy]
  simp only [Option.bind_some, Nat.zero_add]
  rw [if_pos ⟨trivial, trivial, hok, by simp⟩]
  simp [St.setL, St.setO]
def putF : List Int → Int → List Int
  | [], n => [n]
  | x :: l, n => if x < n then x :: putF l n else if x = n then x :: l else n :: x :: l
theorem putF_at (n : Int) : ∀ (l : List Int) (k : Nat), k ≤ l.length → (∀ j (h : j < l.length), j < k → l[j] < n) → (∀ h : k < l.length, ¬ l[k] < n) →
    putF l n = if l[k]? = some n then l else l.take k ++ n :: l.drop k
  | [], k, hk, _, _ => by
    have : k = 0 := by simpa using hk
    subst this; simp [putF]
  | x :: l, 0, _, _, h => by
    have h0 := h (by simp)
    simp only [List.getElem_cons_zero] at h0
    simp only [putF, if_neg h0, List.getElem?_cons_zero, Option.some.injEq, List.take_zero, List.drop_zero, List.nil_append]
  | x :: l, k + 1, hk, h1, h2 => by
    have hx := h1 0 (by simp) (by omega)
    simp only [List.getElem_cons_zero] at hx
    have ih := putF_at n l k (by simpa using hk) (fun j hj hjk => by have := h1 (j + 1) (by simpa using hj) (by omega); simpa using this) (fun h => by have := h2 (by simpa using h); simpa using this)
    simp only [putF, if_pos hx, List.getElem?_cons_succ, List.take_succ_cons, List.drop_succ_cons, ih]
    split <;> simp
def puI (l : List Int) (n : Int) (m : Nat) (f : AF) (S : St) : Prop :=
  ∃ k, k ≤ l.length ∧ m = l.length - k ∧ f 0 = encIs l ∧ f 1 = encI n ∧ f 5 = encI k ∧ ∀ j (h : j < l.length), j < k → l[j] < n
theorem put_loop {P : Program} {l : List Int} (hl : l.length ≤ 100000) {n : Int} {f : AF} {S : St} {Q : Exit → AF → St → Prop} (h0 : puI l n l.length f S)
    (hq : ∀ f' S' k, k ≤ l.length → f' 0 = encIs l → f' 1 = encI n → f' 5 = encI k → (∀ j (h : j < l.length), j < k → l[j] < n) → (∀ h : k < l.length, ¬ l[k] < n) → Q .normal f' S') : AW P c_put_loop Q f S := by
  simp [Z0h, Z0c, Z0d, Z09, Z0a, Z0i, Z0b, Z0f, Z0g, Z2z, Z2y, Z07, Z08, Z06, Z01, Z02, Z00, Z04, Z05, Z03, Z1z, Z1y, Z46, Z48, Z47, Z45, Z1n, Z1o, Z1m, Z3n, Z3k, Z3m, Z3l, Z3o, Z1l, Z29, Z32, Z3x, Z1i, Z1j, Z1k, Z3v, Z3w, Z1g, Z28, Z1h, Z3i, Z3f, Z3h, Z3g, Z3j, Z41, Z40, Z0t, Z0u, Z0v, Z0s, Z1f, Z4c, Z4b, Z4d, Z4a, Z49, ex, Z43, Z42, ev_t, ev_c, Z27, Z26, Z4e, Z4f, Z2m, Z2l, Z2f, Z2j, Z2k, Z2g, Z2h, Z2i, putc, exBslice, lfill, exField, exIdxV, exIdxP, exBox, exAlloc, exLoad, exStore, exFieldA, exIdxA, exLen, exPick, exUn, exBeq, exMM, exSeq, seqGo, exExt, binV, intOp, subc, AV.solid, S0, encI, encB, c_put_loop]
  refine AW_loop (puI l n) l.length h0 ?_
  rintro m f S ⟨k, hk, rfl, e0, e1, e5, hno⟩
  by_cases hlt : k < l.length
  · have hI : (k : Int) < l.length := by omega
    have hg : l[k]? = some l[k] := List.getElem?_eq_getElem hlt
    have hw : IntKind.i64.wrap ((k : Int) + 1) = (k : Int) + 1 := wrap_in _ (by omega)
    by_cases hc : l[k] < n
    · simp [Z0h, Z0c, Z0d, Z09, Z0a, Z0i, Z0b, Z0f, Z0g, Z2z, Z2y, Z07, Z08, Z06, Z01, Z02, Z00, Z04, Z05, Z03, Z1z, Z1y, Z46, Z48, Z47, Z45, Z1n, Z1o, Z1m, Z3n, Z3k, Z3m, Z3l, Z3o, Z1l, Z29, Z32, Z3x, Z1i, Z1j, Z1k, Z3v, Z3w, Z1g, Z28, Z1h, Z3i, Z3f, Z3h, Z3g, Z3j, Z41, Z40, Z0t, Z0u, Z0v, Z0s, Z1f, Z4c, Z4b, Z4d, Z4a, Z49, ex, Z43, Z42, ev_t, ev_c, Z27, Z26, Z4e, Z4f, Z2m, Z2l, Z2f, Z2j, Z2k, Z2g, Z2h, Z2i, putc, exBslice, lfill, exField, exIdxV, exIdxP, exBox, exAlloc, exLoad, exStore, exFieldA, exIdxA, exLen, exPick, exUn, exBeq, exMM, exSeq, seqGo, exExt, binV, intOp, subc, AV.solid, S0, encI, encB, e0, e1, e5, hI, hlt, hg, encIs, hc, hw]
      refine ⟨l.length - (k + 1), by omega, k + 1, by omega, rfl, ?_, ?_, ?_, fun j hj hjk => ?_⟩
      · simp [Z43, e0, encIs]
      · simp [Z43, e1]
      · simp [Z43, encI]
      · by_cases hjk2 : j = k
        · subst hjk2; exact hc
        · exact hno j hj (by omega)
    · simp [Z0h, Z0c, Z0d, Z09, Z0a, Z0i, Z0b, Z0f, Z0g, Z2z, Z2y, Z07, Z08, Z06, Z01, Z02, Z00, Z04, Z05, Z03, Z1z, Z1y, Z46, Z48, Z47, Z45, Z1n, Z1o, Z1m, Z3n, Z3k, Z3m, Z3l, Z3o, Z1l, Z29, Z32, Z3x, Z1i, Z1j, Z1k, Z3v, Z3w, Z1g, Z28, Z1h, Z3i, Z3f, Z3h, Z3g, Z3j, Z41, Z40, Z0t, Z0u, Z0v, Z0s, Z1f, Z4c, Z4b, Z4d, Z4a, Z49, ex, Z43, Z42, ev_t, ev_c, Z27, Z26, Z4e, Z4f, Z2m, Z2l, Z2f, Z2j, Z2k, Z2g, Z2h, Z2i, putc, exBslice, lfill, exField, exIdxV, exIdxP, exBox, exAlloc, exLoad, exStore, exFieldA, exIdxA, exLen, exPick, exUn, exBeq, exMM, exSeq, seqGo, exExt, binV, intOp, subc, AV.solid, S0, encI, encB, e0, e1, e5, hI, hlt, hg, encIs, hc]
      refine hq _ _ k hk ?_ ?_ ?_ hno (fun _ => hc) <;> simp [Z43, e0, e1, e5, encIs]
  · have hI : ¬ (k : Int) < l.length := by omega
    simp [Z0h, Z0c, Z0d, Z09, Z0a, Z0i, Z0b, Z0f, Z0g, Z2z, Z2y, Z07, Z08, Z06, Z01, Z02, Z00, Z04, Z05, Z03, Z1z, Z1y, Z46, Z48, Z47, Z45, Z1n, Z1o, Z1m, Z3n, Z3k, Z3m, Z3l, Z3o, Z1l, Z29, Z32, Z3x, Z1i, Z1j, Z1k, Z3v, Z3w, Z1g, Z28, Z1h, Z3i, Z3f, Z3h, Z3g, Z3j, Z41, Z40, Z0t, Z0u, Z0v, Z0s, Z1f, Z4c, Z4b, Z4d, Z4a, Z49, ex, Z43, Z42, ev_t, ev_c, Z27, Z26, Z4e, Z4f, Z2m, Z2l, Z2f, Z2j, Z2k, Z2g, Z2h, Z2i, putc, exBslice, lfill, exField, exIdxV, exIdxP, exBox, exAlloc, exLoad, exStore, exFieldA, exIdxA, exLen, exPick, exUn, exBeq, exMM, exSeq, seqGo, exExt, binV, intOp, subc, AV.solid, S0, encI, encB, e0, e1, e5, hI, hlt, encIs]
    refine hq _ _ k hk ?_ ?_ ?_ hno (fun h => (hlt h).elim) <;> simp [Z43, e0, e1, e5, encIs]
theorem put_tail {P : Program} {l : List Int} (hl : l.length ≤ 100000) {n : Int} {k : Nat} (hk : k ≤ l.length) {f : AF} {S : St} (e0 : f 0 = encIs l) (e1 : f 1 = encI n) (e5 : f 5 = encI k) :
    AW P c_put_tail (RetK [4] (FzK (encIs (l.take k ++ n :: l.drop k)))) f S := by
  have hcs : ∀ y ∈ (l.map encI).take k, y.cells.length = 1 := fun y hy => cells_I l y (List.mem_of_mem_take hy)
  have hcd : ∀ y ∈ (l.map encI).drop k, y.cells.length = 1 := fun y hy => cells_I l y (List.mem_of_mem_drop hy)
  have hT : List.take l.length (l.map encI) = l.map encI := List.take_of_length_le (by simp)
  have hlen : ((l.map encI).take k).length = k := by simp; omega
  have hlen2 : ((l.map encI).drop k).length = l.length - k := by simp
  by_cases hk0 : k = 0
  · subst hk0
    simp [Z0h, Z0c, Z0d, Z09, Z0a, Z0i, Z0b, Z0f, Z0g, Z2z, Z2y, Z07, Z08, Z06, Z01, Z02, Z00, Z04, Z05, Z03, Z1z, Z1y, Z46, Z48, Z47, Z45, Z1n, Z1o, Z1m, Z3n, Z3k, Z3m, Z3l, Z3o, Z1l, Z29, Z32, Z3x, Z1i, Z1j, Z1k, Z3v, Z3w, Z1g, Z28, Z1h, Z3i, Z3f, Z3h, Z3g, Z3j, Z41, Z40, Z0t, Z0u, Z0v, Z0s, Z1f, Z4c, Z4b, Z4d, Z4a, Z49, ex, Z43, Z42, ev_t, ev_c, Z27, Z26, Z4e, Z4f, Z2m, Z2l, Z2f, Z2j, Z2k, Z2g, Z2h, Z2i, putc, exBslice, lfill, exField, exIdxV, exIdxP, exBox, exAlloc, exLoad, exStore, exFieldA, exIdxA, exLen, exPick, exUn, exBeq, exMM, exSeq, seqGo, exExt, binV, intOp, subc, AV.solid, S0, encI, encB, c_put_tail, e0, e1, e5, encIs, exSlc, bnd, appT_nil, appOk, hT]
    rw [appT_sl]
    · simp [Z0h, Z0c, Z0d, Z09, Z0a, Z0i, Z0b, Z0f, Z0g, Z2z, Z2y, Z07, Z08, Z06, Z01, Z02, Z00, Z04, Z05, Z03, Z1z, Z1y, Z46, Z48, Z47, Z45, Z1n, Z1o, Z1m, Z3n, Z3k, Z3m, Z3l, Z3o, Z1l, Z29, Z32, Z3x, Z1i, Z1j, Z1k, Z3v, Z3w, Z1g, Z28, Z1h, Z3i, Z3f, Z3h, Z3g, Z3j, Z41, Z40, Z0t, Z0u, Z0v, Z0s, Z1f, Z4c, Z4b, Z4d, Z4a, Z49, ex, Z43, Z42, ev_t, ev_c, Z27, Z26, Z4e, Z4f, Z2m, Z2l, Z2f, Z2j, Z2k, Z2g, Z2h, Z2i, putc, exBslice, lfill, exField, exIdxV, exIdxP, exBox, exAlloc, exLoad, exStore, exFieldA, exIdxA, exLen, exPick, exUn, exBeq, exMM, exSeq, seqGo, exExt, binV, intOp, subc, AV.solid, S0, encI, encB, e0, e1, e5, encIs, exSlc, bnd, hT]
      rw [app_own (xs := [.v (.int .i64 n)])]
      · simp [Z0h, Z0c, Z0d, Z09, Z0a, Z0i, Z0b, Z0f, Z0g, Z2z, Z2y, Z07, Z08, Z06, Z01, Z02, Z00, Z04, Z05, Z03, Z1z, Z1y, Z46, Z48, Z47, Z45, Z1n, Z1o, Z1m, Z3n, Z3k, Z3m, Z3l, Z3o, Z1l, Z29, Z32, Z3x, Z1i, Z1j, Z1k, Z3v, Z3w, Z1g, Z28, Z1h, Z3i, Z3f, Z3h, Z3g, Z3j, Z41, Z40, Z0t, Z0u, Z0v, Z0s, Z1f, Z4c, Z4b, Z4d, Z4a, Z49, ex, Z43, Z42, ev_t, ev_c, Z27, Z26, Z4e, Z4f, Z2m, Z2l, Z2f, Z2j, Z2k, Z2g, Z2h, Z2i, putc, exBslice, lfill, exField, exIdxV, exIdxP, exBox, exAlloc, exLoad, exStore, exFieldA, exIdxA, exLen, exPick, exUn, exBeq, exMM, exSeq, seqGo, exExt, binV, intOp, subc, AV.solid, S0, encI, encB]
        exact Vec.fz (es := 1) (l := n :: l) (Vec.mk' (by simp [Z4e, encI]) (by simp; omega)) Z2r
      · simp [Z4e]
      · simp
      · exact cells_I l
      · unfold appOk; simp; omega
    · simp [AV.cells]
    · simp
    · unfold appOk; simp
  · simp [Z0h, Z0c, Z0d, Z09, Z0a, Z0i, Z0b, Z0f, Z0g, Z2z, Z2y, Z07, Z08, Z06, Z01, Z02, Z00, Z04, Z05, Z03, Z1z, Z1y, Z46, Z48, Z47, Z45, Z1n, Z1o, Z1m, Z3n, Z3k, Z3m, Z3l, Z3o, Z1l, Z29, Z32, Z3x, Z1i, Z1j, Z1k, Z3v, Z3w, Z1g, Z28, Z1h, Z3i, Z3f, Z3h, Z3g, Z3j, Z41, Z40, Z0t, Z0u, Z0v, Z0s, Z1f, Z4c, Z4b, Z4d, Z4a, Z49, ex, Z43, Z42, ev_t, ev_c, Z27, Z26, Z4e, Z4f, Z2m, Z2l, Z2f, Z2j, Z2k, Z2g, Z2h, Z2i, putc, exBslice, lfill, exField, exIdxV, exIdxP, exBox, exAlloc, exLoad, exStore, exFieldA, exIdxA, exLen, exPick, exUn, exBeq, exMM, exSeq, seqGo, exExt, binV, intOp, subc, AV.solid, S0, encI, encB, c_put_tail, e0, e1, e5, encIs, exSlc, bnd, hk, hT]
    have hmin : min k l.length = k := by omega
    rw [appT_sl hcs (by rw [hlen]; omega) (by unfold appOk; rw [hlen]; omega)]
    simp [Z0h, Z0c, Z0d, Z09, Z0a, Z0i, Z0b, Z0f, Z0g, Z2z, Z2y, Z07, Z08, Z06, Z01, Z02, Z00, Z04, Z05, Z03, Z1z, Z1y, Z46, Z48, Z47, Z45, Z1n, Z1o, Z1m, Z3n, Z3k, Z3m, Z3l, Z3o, Z1l, Z29, Z32, Z3x, Z1i, Z1j, Z1k, Z3v, Z3w, Z1g, Z28, Z1h, Z3i, Z3f, Z3h, Z3g, Z3j, Z41, Z40, Z0t, Z0u, Z0v, Z0s, Z1f, Z4c, Z4b, Z4d, Z4a, Z49, ex, Z43, Z42, ev_t, ev_c, Z27, Z26, Z4e, Z4f, Z2m, Z2l, Z2f, Z2j, Z2k, Z2g, Z2h, Z2i, putc, exBslice, lfill, exField, exIdxV, exIdxP, exBox, exAlloc, exLoad, exStore, exFieldA, exIdxA, exLen, exPick, exUn, exBeq, exMM, exSeq, seqGo, exExt, binV, intOp, subc, AV.solid, S0, encI, encB, e0, e1, e5, hmin]
    rw [appT_own (xs := (l.map encI).take k)]
    · simp [Z0h, Z0c, Z0d, Z09, Z0a, Z0i, Z0b, Z0f, Z0g, Z2z, Z2y, Z07, Z08, Z06, Z01, Z02, Z00, Z04, Z05, Z03, Z1z, Z1y, Z46, Z48, Z47, Z45, Z1n, Z1o, Z1m, Z3n, Z3k, Z3m, Z3l, Z3o, Z1l, Z29, Z32, Z3x, Z1i, Z1j, Z1k, Z3v, Z3w, Z1g, Z28, Z1h, Z3i, Z3f, Z3h, Z3g, Z3j, Z41, Z40, Z0t, Z0u, Z0v, Z0s, Z1f, Z4c, Z4b, Z4d, Z4a, Z49, ex, Z43, Z42, ev_t, ev_c, Z27, Z26, Z4e, Z4f, Z2m, Z2l, Z2f, Z2j, Z2k, Z2g, Z2h, Z2i, putc, exBslice, lfill, exField, exIdxV, exIdxP, exBox, exAlloc, exLoad, exStore, exFieldA, exIdxA, exLen, exPick, exUn, exBeq, exMM, exSeq, seqGo, exExt, binV, intOp, subc, AV.solid, S0, encI, encB, e0, e1, e5, encIs, exSlc, bnd, hk, hT]
      rw [app_own (xs := (l.map encI).take k ++ [.v (.int .i64 n)])]
      · simp [Z0h, Z0c, Z0d, Z09, Z0a, Z0i, Z0b, Z0f, Z0g, Z2z, Z2y, Z07, Z08, Z06, Z01, Z02, Z00, Z04, Z05, Z03, Z1z, Z1y, Z46, Z48, Z47, Z45, Z1n, Z1o, Z1m, Z3n, Z3k, Z3m, Z3l, Z3o, Z1l, Z29, Z32, Z3x, Z1i, Z1j, Z1k, Z3v, Z3w, Z1g, Z28, Z1h, Z3i, Z3f, Z3h, Z3g, Z3j, Z41, Z40, Z0t, Z0u, Z0v, Z0s, Z1f, Z4c, Z4b, Z4d, Z4a, Z49, ex, Z43, Z42, ev_t, ev_c, Z27, Z26, Z4e, Z4f, Z2m, Z2l, Z2f, Z2j, Z2k, Z2g, Z2h, Z2i, putc, exBslice, lfill, exField, exIdxV, exIdxP, exBox, exAlloc, exLoad, exStore, exFieldA, exIdxA, exLen, exPick, exUn, exBeq, exMM, exSeq, seqGo, exExt, binV, intOp, subc, AV.solid, S0, encI, encB]
        have e : (l.take k ++ n :: l.drop k).map encI = (l.map encI).take k ++ AV.v (.int .i64 n) :: (l.map encI).drop k := by simp [List.map_take, List.map_drop, encI]
        rw [← e]
        exact Vec.fz (es := 1) (l := l.take k ++ n :: l.drop k) (Vec.mk' (by simp [Z4e, e]) (by simp; omega)) Z2r
      · simp [Z4e]
      · simp [hmin]
      · exact hcd
      · unfold appOk; rw [hlen2]; omega
    · simp [Z4e]
    · rw [hlen]
    · simp [AV.cells]
    · unfold appOk; simp; omega
theorem caesuraref01_put_body {P : Program} (l : List Int) (n : Int) (hl : l.length ≤ 100000) : AW P c_caesuraref01_put (RetK [4] (FzK (encIs (putF l n)))) (argF [encIs l, encI n]) S0 := by
  simp [Z0h, Z0c, Z0d, Z09, Z0a, Z0i, Z0b, Z0f, Z0g, Z2z, Z2y, Z07, Z08, Z06, Z01, Z02, Z00, Z04, Z05, Z03, Z1z, Z1y, Z46, Z48, Z47, Z45, Z1n, Z1o, Z1m, Z3n, Z3k, Z3m, Z3l, Z3o, Z1l, Z29, Z32, Z3x, Z1i, Z1j, Z1k, Z3v, Z3w, Z1g, Z28, Z1h, Z3i, Z3f, Z3h, Z3g, Z3j, Z41, Z40, Z0t, Z0u, Z0v, Z0s, Z1f, Z4c, Z4b, Z4d, Z4a, Z49, ex, Z43, Z42, ev_t, ev_c, Z27, Z26, Z4e, Z4f, Z2m, Z2l, Z2f, Z2j, Z2k, Z2g, Z2h, Z2i, putc, exBslice, lfill, exField, exIdxV, exIdxP, exBox, exAlloc, exLoad, exStore, exFieldA, exIdxA, exLen, exPick, exUn, exBeq, exMM, exSeq, seqGo, exExt, binV, intOp, subc, AV.solid, S0, encI, encB, c_caesuraref01_put]
  refine put_loop hl (l := l) (n := n) ?_ ?_
  · refine ⟨0, by omega, rfl, ?_, ?_, ?_, fun j _ hj => by omega⟩ <;> simp [Z43, Z27, Z26, encI]
  · intro f S k hk e0 e1 e5 h1 h2
    have hput := putF_at n l k hk h1 h2
    have e0' : f 0 = .sl false (l.map encI) := e0
    by_cases hlt : k < l.length
    · have hI : (k : Int) < l.length := by omega
      have hg : l[k]? = some l[k] := List.getElem?_eq_getElem hlt
      rw [hg] at hput
      by_cases he : l[k] = n
      · have hc : (l[k] == n) = true := by simp [he]
        rw [if_pos (by rw [he])] at hput
        rw [hput]
        simp [Z0h, Z0c, Z0d, Z09, Z0a, Z0i, Z0b, Z0f, Z0g, Z2z, Z2y, Z07, Z08, Z06, Z01, Z02, Z00, Z04, Z05, Z03, Z1z, Z1y, Z46, Z48, Z47, Z45, Z1n, Z1o, Z1m, Z3n, Z3k, Z3m, Z3l, Z3o, Z1l, Z29, Z32, Z3x, Z1i, Z1j, Z1k, Z3v, Z3w, Z1g, Z28, Z1h, Z3i, Z3f, Z3h, Z3g, Z3j, Z41, Z40, Z0t, Z0u, Z0v, Z0s, Z1f, Z4c, Z4b, Z4d, Z4a, Z49, ex, Z43, Z42, ev_t, ev_c, Z27, Z26, Z4e, Z4f, Z2m, Z2l, Z2f, Z2j, Z2k, Z2g, Z2h, Z2i, putc, exBslice, lfill, exField, exIdxV, exIdxP, exBox, exAlloc, exLoad, exStore, exFieldA, exIdxA, exLen, exPick, exUn, exBeq, exMM, exSeq, seqGo, exExt, binV, intOp, subc, AV.solid, S0, encI, encB, e0', e1, e5, hI, hlt, hg, hc]
        exact .closed _ (Z2s _)
      · have hc : (l[k] == n) = false := by simp [he]
        rw [if_neg (by simp [he])] at hput
        rw [hput]
        simp [Z0h, Z0c, Z0d, Z09, Z0a, Z0i, Z0b, Z0f, Z0g, Z2z, Z2y, Z07, Z08, Z06, Z01, Z02, Z00, Z04, Z05, Z03, Z1z, Z1y, Z46, Z48, Z47, Z45, Z1n, Z1o, Z1m, Z3n, Z3k, Z3m, Z3l, Z3o, Z1l, Z29, Z32, Z3x, Z1i, Z1j, Z1k, Z3v, Z3w, Z1g, Z28, Z1h, Z3i, Z3f, Z3h, Z3g, Z3j, Z41, Z40, Z0t, Z0u, Z0v, Z0s, Z1f, Z4c, Z4b, Z4d, Z4a, Z49, ex, Z43, Z42, ev_t, ev_c, Z27, Z26, Z4e, Z4f, Z2m, Z2l, Z2f, Z2j, Z2k, Z2g, Z2h, Z2i, putc, exBslice, lfill, exField, exIdxV, exIdxP, exBox, exAlloc, exLoad, exStore, exFieldA, exIdxA, exLen, exPick, exUn, exBeq, exMM, exSeq, seqGo, exExt, binV, intOp, subc, AV.solid, S0, encI, encB, e0', e1, e5, hI, hlt, hg, hc]
        refine put_tail hl hk ?_ ?_ ?_ <;> simp [Z43, e0, e1, e5]
    · have hI : ¬ (k : Int) < l.length := by omega
      rw [List.getElem?_eq_none (by omega), if_neg (by simp)] at hput
      rw [hput]
      simp [Z0h, Z0c, Z0d, Z09, Z0a, Z0i, Z0b, Z0f, Z0g, Z2z, Z2y, Z07, Z08, Z06, Z01, Z02, Z00, Z04, Z05, Z03, Z1z, Z1y, Z46, Z48, Z47, Z45, Z1n, Z1o, Z1m, Z3n, Z3k, Z3m, Z3l, Z3o, Z1l, Z29, Z32, Z3x, Z1i, Z1j, Z1k, Z3v, Z3w, Z1g, Z28, Z1h, Z3i, Z3f, Z3h, Z3g, Z3j, Z41, Z40, Z0t, Z0u, Z0v, Z0s, Z1f, Z4c, Z4b, Z4d, Z4a, Z49, ex, Z43, Z42, ev_t, ev_c, Z27, Z26, Z4e, Z4f, Z2m, Z2l, Z2f, Z2j, Z2k, Z2g, Z2h, Z2i, putc, exBslice, lfill, exField, exIdxV, exIdxP, exBox, exAlloc, exLoad, exStore, exFieldA, exIdxA, exLen, exPick, exUn, exBeq, exMM, exSeq, seqGo, exExt, binV, intOp, subc, AV.solid, S0, encI, encB, e0', e1, e5, hI, hlt]
      refine put_tail hl hk ?_ ?_ ?_ <;> simp [Z43, e0, e1, e5]
/-! ### the edges -/
def Iv (g : Nat → Option Blk) (v : AV) (l : List Int) : Prop := (∃ t, v = .sl t (l.map encI)) ∨ Vec g v 1 (l.map encI)
theorem Iv.frame {g g' : Nat → Option Blk} {v : AV} {l : List Int} (h : Iv g v l) (hs : ∀ i ∈ v.ids, g' i = g i) : Iv g' v l := by
  rcases h with h | h
  · exact .inl h
  · exact .inr (h.frame hs)
theorem Iv.fz {g : Nat → Option Blk} {v : AV} {l : List Int} (h : Iv g v l) : Fz g v (encIs l) := by
  rcases h with ⟨t, rfl⟩ | h
  · exact .loose t _ (closed_map Z2r l)
  · exact h.fz Z2r
theorem Iv.only {g : Nat → Option Blk} {v : AV} {l : List Int} (h : Iv g v l) : Iv (only v.ids g) v l := h.frame (fun i hi => by rw [only_g, if_pos hi])
def edge1 (out : List Int) (r : Rg) : List Int := if 0 ≤ r.low ∧ r.low ≤ 1114111 then putF out r.low else out
def edge2 (out : List Int) (r : Rg) : List Int := if -1 ≤ r.high ∧ r.high < 1114111 then putF out (r.high + 1) else out
def edgeS (out : List Int) (l : List Rg) : List Int := if l.length ≤ 400 then l.foldl (fun o r => edge2 (edge1 o r) r) out else out
def edgesF (sets : List (List Rg)) : List Int := sets.foldl edgeS [0]
theorem putF_len : ∀ (l : List Int) (n : Int), (putF l n).length ≤ l.length + 1
  | [], _ => by simp [putF]
  | x :: l, n => by
    simp only [putF]
    split
    · have := putF_len l n; simp; omega
    · split <;> simp
theorem edge_len (o : List Int) (r : Rg) : (edge1 o r).length ≤ o.length + 1 ∧ (edge2 o r).length ≤ o.length + 1 := by
  unfold edge1 edge2
  have := putF_len o r.low
  have := putF_len o (r.high + 1)
  constructor <;> split <;> omega
theorem edgeF_len : ∀ (l : List Rg) (o : List Int), (l.foldl (fun o r => edge2 (edge1 o r) r) o).length ≤ o.length + 2 * l.length
  | [], _ => by simp
  | r :: l, o => by
    have h1 := edgeF_len l (edge2 (edge1 o r) r)
    have h2 := (edge_len o r).1
    have h3 := (edge_len (edge1 o r) r).2
    simp only [List.foldl_cons, List.length_cons]; omega
theorem edgeS_len (o : List Int) (l : List Rg) : (edgeS o l).length ≤ o.length + 800 := by
  unfold edgeS; split
  · have := edgeF_len l o; omega
  · omega
structure ER (sets : List (List Rg)) (i k c : Nat) (r : Rg) (cur : List Int) (f : AF) (S : St) : Prop where
  e0 : f 0 = encRss sets
  e4 : f 4 = encI i
  e5 : f 5 = encI k
  e6 : f 6 = .ptr c 0 0
  gc : S.g c = some (.arr 2 [encR r])
  v : Iv S.g (f 3) cur
  ids : ∀ x ∈ (f 3).ids, x < S.n ∧ x ≠ c
theorem lose_same {S : St} {ids : List Nat} {c : Nat} (h : ∀ x ∈ ids, x ≠ c) : (S.lose ids).g c = S.g c := by
  rw [lose_g, if_neg]; intro hc; exact h c hc rfl
theorem ed1 {P : Program} {fp : FuncId} {sets : List (List Rg)} {i k c : Nat} {r : Rg} {cur : List Int} (hp : ∀ l n, l.length ≤ 100000 → PureC P fp [encIs l, encI n] (encIs (putF l n))) (hl : cur.length ≤ 100000) {f : AF} {S : St} {Q : Exit → AF → St → Prop}
    (st : ER sets i k c r cur f S) (hq : ∀ f' S', ER sets i k c r (edge1 cur r) f' S' → Q .normal f' S') : AW P (c_e1 fp) Q f S := by
  obtain ⟨e0, e4, e5, e6, gc, v, ids⟩ := st
  obtain ⟨lo, hi⟩ := r
  simp only [encR] at gc
  have hs : (∀ x ∈ (f 3).ids, x ≠ c) := fun x hx => (ids x hx).2
  have skip : ∀ {f' : AF} {S' : St}, edge1 cur ⟨lo, hi⟩ = cur → (∀ j, j = 0 ∨ j = 3 ∨ j = 4 ∨ j = 5 ∨ j = 6 → f' j = f j) → S'.g = S.g → S.n ≤ S'.n → Q .normal f' S' := by
    intro f' S' he hf hg hn
    refine hq _ _ ⟨by rw [hf 0 (by simp), e0], by rw [hf 4 (by simp), e4], by rw [hf 5 (by simp), e5], by rw [hf 6 (by simp), e6], by rw [hg]; exact gc, by rw [hf 3 (by simp), hg, he]; exact v, fun x hx => ?_⟩
    rw [hf 3 (by simp)] at hx
    exact ⟨by have := (ids x hx).1; omega, hs x hx⟩
  by_cases h1 : 0 ≤ lo
  · by_cases h2 : lo ≤ 1114111
    · simp [Z0h, Z0c, Z0d, Z09, Z0a, Z0i, Z0b, Z0f, Z0g, Z2z, Z2y, Z07, Z08, Z06, Z01, Z02, Z00, Z04, Z05, Z03, Z1z, Z1y, Z46, Z48, Z47, Z45, Z1n, Z1o, Z1m, Z3n, Z3k, Z3m, Z3l, Z3o, Z1l, Z29, Z32, Z3x, Z1i, Z1j, Z1k, Z3v, Z3w, Z1g, Z28, Z1h, Z3i, Z3f, Z3h, Z3g, Z3j, Z41, Z40, Z0t, Z0u, Z0v, Z0s, Z1f, Z4c, Z4b, Z4d, Z4a, Z49, ex, Z43, Z42, ev_t, ev_c, Z27, Z26, Z4e, Z4f, Z2m, Z2l, Z2f, Z2j, Z2k, Z2g, Z2h, Z2i, putc, exBslice, lfill, exField, exIdxV, exIdxP, exBox, exAlloc, exLoad, exStore, exFieldA, exIdxA, exLen, exPick, exUn, exBeq, exMM, exSeq, seqGo, exExt, binV, intOp, subc, AV.solid, S0, encI, encB, c_e1, e0, e4, e5, e6, gc, h1, h2]
      have hz : FzL (only (f 3).ids S.g) [f 3, .v (.int .i64 lo)] [encIs cur, encI lo] := FzL.cons v.only.fz (FzL.cons (fz_I _) .nil)
      refine CallR.gives (S := ⟨S.n + 8 + 5, S.g⟩) (f 3).ids (hp cur lo hl) hz (Z2s _) ?_
      simp [Z0h, Z0c, Z0d, Z09, Z0a, Z0i, Z0b, Z0f, Z0g, Z2z, Z2y, Z07, Z08, Z06, Z01, Z02, Z00, Z04, Z05, Z03, Z1z, Z1y, Z46, Z48, Z47, Z45, Z1n, Z1o, Z1m, Z3n, Z3k, Z3m, Z3l, Z3o, Z1l, Z29, Z32, Z3x, Z1i, Z1j, Z1k, Z3v, Z3w, Z1g, Z28, Z1h, Z3i, Z3f, Z3h, Z3g, Z3j, Z41, Z40, Z0t, Z0u, Z0v, Z0s, Z1f, Z4c, Z4b, Z4d, Z4a, Z49, ex, Z43, Z42, ev_t, ev_c, Z27, Z26, Z4e, Z4f, Z2m, Z2l, Z2f, Z2j, Z2k, Z2g, Z2h, Z2i, putc, exBslice, lfill, exField, exIdxV, exIdxP, exBox, exAlloc, exLoad, exStore, exFieldA, exIdxA, exLen, exPick, exUn, exBeq, exMM, exSeq, seqGo, exExt, binV, intOp, subc, AV.solid, S0, encI, encB]
      have he : edge1 cur ⟨lo, hi⟩ = putF cur lo := by unfold edge1; rw [if_pos ⟨h1, h2⟩]
      refine hq _ _ ⟨?_, ?_, ?_, ?_, ?_, ?_, ?_⟩
      · simp [Z43, e0]
      · simp [Z43, e4]
      · simp [Z43, e5]
      · simp [Z43, e6]
      · rw [lose_same hs]; exact gc
      · rw [he]; exact .inl ⟨false, by simp [Z43, encIs]⟩
      · simp [Z43, encIs, AV.ids]
    · simp [Z0h, Z0c, Z0d, Z09, Z0a, Z0i, Z0b, Z0f, Z0g, Z2z, Z2y, Z07, Z08, Z06, Z01, Z02, Z00, Z04, Z05, Z03, Z1z, Z1y, Z46, Z48, Z47, Z45, Z1n, Z1o, Z1m, Z3n, Z3k, Z3m, Z3l, Z3o, Z1l, Z29, Z32, Z3x, Z1i, Z1j, Z1k, Z3v, Z3w, Z1g, Z28, Z1h, Z3i, Z3f, Z3h, Z3g, Z3j, Z41, Z40, Z0t, Z0u, Z0v, Z0s, Z1f, Z4c, Z4b, Z4d, Z4a, Z49, ex, Z43, Z42, ev_t, ev_c, Z27, Z26, Z4e, Z4f, Z2m, Z2l, Z2f, Z2j, Z2k, Z2g, Z2h, Z2i, putc, exBslice, lfill, exField, exIdxV, exIdxP, exBox, exAlloc, exLoad, exStore, exFieldA, exIdxA, exLen, exPick, exUn, exBeq, exMM, exSeq, seqGo, exExt, binV, intOp, subc, AV.solid, S0, encI, encB, c_e1, e0, e4, e5, e6, gc, h1, h2]
      refine skip (by unfold edge1; rw [if_neg (by simp only; omega)]) ?_ rfl (by simp)
      intro j hj; rcases hj with rfl | rfl | rfl | rfl | rfl <;> simp [Z43]
  · simp [Z0h, Z0c, Z0d, Z09, Z0a, Z0i, Z0b, Z0f, Z0g, Z2z, Z2y, Z07, Z08, Z06, Z01, Z02, Z00, Z04, Z05, Z03, Z1z, Z1y, Z46, Z48, Z47, Z45, Z1n, Z1o, Z1m, Z3n, Z3k, Z3m, Z3l, Z3o, Z1l, Z29, Z32, Z3x, Z1i, Z1j, Z1k, Z3v, Z3w, Z1g, Z28, Z1h, Z3i, Z3f, Z3h, Z3g, Z3j, Z41, Z40, Z0t, Z0u, Z0v, Z0s, Z1f, Z4c, Z4b, Z4d, Z4a, Z49, ex, Z43, Z42, ev_t, ev_c, Z27, Z26, Z4e, Z4f, Z2m, Z2l, Z2f, Z2j, Z2k, Z2g, Z2h, Z2i, putc, exBslice, lfill, exField, exIdxV, exIdxP, exBox, exAlloc, exLoad, exStore, exFieldA, exIdxA, exLen, exPick, exUn, exBeq, exMM, exSeq, seqGo, exExt, binV, intOp, subc, AV.solid, S0, encI, encB, c_e1, e0, e4, e5, e6, gc, h1]
    refine skip (by unfold edge1; rw [if_neg (by simp only; omega)]) ?_ rfl (by simp)
    intro j hj; rcases hj with rfl | rfl | rfl | rfl | rfl <;> simp [Z43]
theorem ed2 {P : Program} {fp : FuncId} {sets : List (List Rg)} {i k c : Nat} {r : Rg} {cur : List Int} (hp : ∀ l n, l.length ≤ 100000 → PureC P fp [encIs l, encI n] (encIs (putF l n))) (hl : cur.length ≤ 100000) {f : AF} {S : St} {Q : Exit → AF → St → Prop}
    (st : ER sets i k c r cur f S) (hq : ∀ f' S', ER sets i k c r (edge2 cur r) f' S' → Q .normal f' S') : AW P (c_e2 fp) Q f S := by
  obtain ⟨e0, e4, e5, e6, gc, v, ids⟩ := st
  obtain ⟨lo, hi⟩ := r
  simp only [encR] at gc
  have hs : (∀ x ∈ (f 3).ids, x ≠ c) := fun x hx => (ids x hx).2
  have skip : ∀ {f' : AF} {S' : St}, edge2 cur ⟨lo, hi⟩ = cur → (∀ j, j = 0 ∨ j = 3 ∨ j = 4 ∨ j = 5 ∨ j = 6 → f' j = f j) → S'.g = S.g → S.n ≤ S'.n → Q .normal f' S' := by
    intro f' S' he hf hg hn
    refine hq _ _ ⟨by rw [hf 0 (by simp), e0], by rw [hf 4 (by simp), e4], by rw [hf 5 (by simp), e5], by rw [hf 6 (by simp), e6], by rw [hg]; exact gc, by rw [hf 3 (by simp), hg, he]; exact v, fun x hx => ?_⟩
    rw [hf 3 (by simp)] at hx
    exact ⟨by have := (ids x hx).1; omega, hs x hx⟩
  by_cases h1 : -1 ≤ hi
  · by_cases h2 : hi < 1114111
    · have hw : IntKind.i64.wrap (hi + 1) = hi + 1 := wrap_in _ (by omega)
      simp [Z0h, Z0c, Z0d, Z09, Z0a, Z0i, Z0b, Z0f, Z0g, Z2z, Z2y, Z07, Z08, Z06, Z01, Z02, Z00, Z04, Z05, Z03, Z1z, Z1y, Z46, Z48, Z47, Z45, Z1n, Z1o, Z1m, Z3n, Z3k, Z3m, Z3l, Z3o, Z1l, Z29, Z32, Z3x, Z1i, Z1j, Z1k, Z3v, Z3w, Z1g, Z28, Z1h, Z3i, Z3f, Z3h, Z3g, Z3j, Z41, Z40, Z0t, Z0u, Z0v, Z0s, Z1f, Z4c, Z4b, Z4d, Z4a, Z49, ex, Z43, Z42, ev_t, ev_c, Z27, Z26, Z4e, Z4f, Z2m, Z2l, Z2f, Z2j, Z2k, Z2g, Z2h, Z2i, putc, exBslice, lfill, exField, exIdxV, exIdxP, exBox, exAlloc, exLoad, exStore, exFieldA, exIdxA, exLen, exPick, exUn, exBeq, exMM, exSeq, seqGo, exExt, binV, intOp, subc, AV.solid, S0, encI, encB, c_e2, e0, e4, e5, e6, gc, h1, h2, hw]
      have hz : FzL (only (f 3).ids S.g) [f 3, .v (.int .i64 (hi + 1))] [encIs cur, encI (hi + 1)] := FzL.cons v.only.fz (FzL.cons (fz_I _) .nil)
      refine CallR.gives (S := ⟨S.n + 8 + 6, S.g⟩) (f 3).ids (hp cur (hi + 1) hl) hz (Z2s _) ?_
      simp [Z0h, Z0c, Z0d, Z09, Z0a, Z0i, Z0b, Z0f, Z0g, Z2z, Z2y, Z07, Z08, Z06, Z01, Z02, Z00, Z04, Z05, Z03, Z1z, Z1y, Z46, Z48, Z47, Z45, Z1n, Z1o, Z1m, Z3n, Z3k, Z3m, Z3l, Z3o, Z1l, Z29, Z32, Z3x, Z1i, Z1j, Z1k, Z3v, Z3w, Z1g, Z28, Z1h, Z3i, Z3f, Z3h, Z3g, Z3j, Z41, Z40, Z0t, Z0u, Z0v, Z0s, Z1f, Z4c, Z4b, Z4d, Z4a, Z49, ex, Z43, Z42, ev_t, ev_c, Z27, Z26, Z4e, Z4f, Z2m, Z2l, Z2f, Z2j, Z2k, Z2g, Z2h, Z2i, putc, exBslice, lfill, exField, exIdxV, exIdxP, exBox, exAlloc, exLoad, exStore, exFieldA, exIdxA, exLen, exPick, exUn, exBeq, exMM, exSeq, seqGo, exExt, binV, intOp, subc, AV.solid, S0, encI, encB]
      have he : edge2 cur ⟨lo, hi⟩ = putF cur (hi + 1) := by unfold edge2; rw [if_pos ⟨h1, h2⟩]
      refine hq _ _ ⟨?_, ?_, ?_, ?_, ?_, ?_, ?_⟩
      · simp [Z43, e0]
      · simp [Z43, e4]
      · simp [Z43, e5]
      · simp [Z43, e6]
      · rw [lose_same hs]; exact gc
      · rw [he]; exact .inl ⟨false, by simp [Z43, encIs]⟩
      · simp [Z43, encIs, AV.ids]
    · simp [Z0h, Z0c, Z0d, Z09, Z0a, Z0i, Z0b, Z0f, Z0g, Z2z, Z2y, Z07, Z08, Z06, Z01, Z02, Z00, Z04, Z05, Z03, Z1z, Z1y, Z46, Z48, Z47, Z45, Z1n, Z1o, Z1m, Z3n, Z3k, Z3m, Z3l, Z3o, Z1l, Z29, Z32, Z3x, Z1i, Z1j, Z1k, Z3v, Z3w, Z1g, Z28, Z1h, Z3i, Z3f, Z3h, Z3g, Z3j, Z41, Z40, Z0t, Z0u, Z0v, Z0s, Z1f, Z4c, Z4b, Z4d, Z4a, Z49, ex, Z43, Z42, ev_t, ev_c, Z27, Z26, Z4e, Z4f, Z2m, Z2l, Z2f, Z2j, Z2k, Z2g, Z2h, Z2i, putc, exBslice, lfill, exField, exIdxV, exIdxP, exBox, exAlloc, exLoad, exStore, exFieldA, exIdxA, exLen, exPick, exUn, exBeq, exMM, exSeq, seqGo, exExt, binV, intOp, subc, AV.solid, S0, encI, encB, c_e2, e0, e4, e5, e6, gc, h1, h2]
      refine skip (by unfold edge2; rw [if_neg (by simp only; omega)]) ?_ rfl (by simp)
      intro j hj; rcases hj with rfl | rfl | rfl | rfl | rfl <;> simp [Z43]
  · simp [Z0h, Z0c, Z0d, Z09, Z0a, Z0i, Z0b, Z0f, Z0g, Z2z, Z2y, Z07, Z08, Z06, Z01, Z02, Z00, Z04, Z05, Z03, Z1z, Z1y, Z46, Z48, Z47, Z45, Z1n, Z1o, Z1m, Z3n, Z3k, Z3m, Z3l, Z3o, Z1l, Z29, Z32, Z3x, Z1i, Z1j, Z1k, Z3v, Z3w, Z1g, Z28, Z1h, Z3i, Z3f, Z3h, Z3g, Z3j, Z41, Z40, Z0t, Z0u, Z0v, Z0s, Z1f, Z4c, Z4b, Z4d, Z4a, Z49, ex, Z43, Z42, ev_t, ev_c, Z27, Z26, Z4e, Z4f, Z2m, Z2l, Z2f, Z2j, Z2k, Z2g, Z2h, Z2i, putc, exBslice, lfill, exField, exIdxV, exIdxP, exBox, exAlloc, exLoad, exStore, exFieldA, exIdxA, exLen, exPick, exUn, exBeq, exMM, exSeq, seqGo, exExt, binV, intOp, subc, AV.solid, S0, encI, encB, c_e2, e0, e4, e5, e6, gc, h1]
    refine skip (by unfold edge2; rw [if_neg (by simp only; omega)]) ?_ rfl (by simp)
    intro j hj; rcases hj with rfl | rfl | rfl | rfl | rfl <;> simp [Z43]
structure EB (sets : List (List Rg)) (i k : Nat) (cur : List Int) (f : AF) (S : St) : Prop where
  e0 : f 0 = encRss sets
  e4 : f 4 = encI i
  e5 : f 5 = encI k
  v : Iv S.g (f 3) cur
  ids : ∀ x ∈ (f 3).ids, x < S.n
theorem ed_one {P : Program} {fp : FuncId} {sets : List (List Rg)} {i k : Nat} {cur : List Int} (hp : ∀ l n, l.length ≤ 100000 → PureC P fp [encIs l, encI n] (encIs (putF l n))) (hl : cur.length ≤ 99999) (hi : i < sets.length) (hk : k < sets[i].length) {f : AF} {S : St} {Q : Exit → AF → St → Prop}
    (st : EB sets i k cur f S) (hq : ∀ f' S', EB sets i k (edge2 (edge1 cur sets[i][k]) sets[i][k]) f' S' → Q .normal f' S') : AW P (c_ed_one fp) Q f S := by
  obtain ⟨e0, e4, e5, v, ids⟩ := st
  have hiI : (i : Int) < sets.length := by omega
  have hkI : (k : Int) < (sets[i]).length := by omega
  have hgi : sets[i]? = some sets[i] := List.getElem?_eq_getElem hi
  have hgk : (sets[i])[k]? = some (sets[i])[k] := List.getElem?_eq_getElem hk
  generalize hr : (sets[i])[k] = r at *
  have hlen1 := (edge_len cur r).1
  obtain ⟨lo, hig⟩ := r
  simp [Z0h, Z0c, Z0d, Z09, Z0a, Z0i, Z0b, Z0f, Z0g, Z2z, Z2y, Z07, Z08, Z06, Z01, Z02, Z00, Z04, Z05, Z03, Z1z, Z1y, Z46, Z48, Z47, Z45, Z1n, Z1o, Z1m, Z3n, Z3k, Z3m, Z3l, Z3o, Z1l, Z29, Z32, Z3x, Z1i, Z1j, Z1k, Z3v, Z3w, Z1g, Z28, Z1h, Z3i, Z3f, Z3h, Z3g, Z3j, Z41, Z40, Z0t, Z0u, Z0v, Z0s, Z1f, Z4c, Z4b, Z4d, Z4a, Z49, ex, Z43, Z42, ev_t, ev_c, Z27, Z26, Z4e, Z4f, Z2m, Z2l, Z2f, Z2j, Z2k, Z2g, Z2h, Z2i, putc, exBslice, lfill, exField, exIdxV, exIdxP, exBox, exAlloc, exLoad, exStore, exFieldA, exIdxA, exLen, exPick, exUn, exBeq, exMM, exSeq, seqGo, exExt, binV, intOp, subc, AV.solid, S0, encI, encB, c_ed_one, e0, e4, e5, encRss, encRs, encR, hiI, hi, hgi, hkI, hk, hgk, hr]
  refine ed1 (sets := sets) (i := i) (k := k) (cur := cur) (r := ⟨lo, hig⟩) (c := S.n + 7) hp (by omega) ⟨?_, ?_, ?_, ?_, ?_, ?_, ?_⟩ ?_
  · simp [Z43, e0]
  · simp [Z43, e4]
  · simp [Z43, e5]
  · simp [Z43]
  · simp [Z4e, encR, encI]
  · simp only [Z43]
    simp only [Nat.reduceEqDiff, if_false]
    exact v.frame (fun x hx => by have := ids x hx; simp only [Z4e]; rw [if_neg (by omega), if_neg (by omega)])
  · intro x hx
    simp [Z43] at hx
    have := ids x hx
    simp [Z4f]; omega
  · intro f1 S1 st1
    simp [Z0h, Z0c, Z0d, Z09, Z0a, Z0i, Z0b, Z0f, Z0g, Z2z, Z2y, Z07, Z08, Z06, Z01, Z02, Z00, Z04, Z05, Z03, Z1z, Z1y, Z46, Z48, Z47, Z45, Z1n, Z1o, Z1m, Z3n, Z3k, Z3m, Z3l, Z3o, Z1l, Z29, Z32, Z3x, Z1i, Z1j, Z1k, Z3v, Z3w, Z1g, Z28, Z1h, Z3i, Z3f, Z3h, Z3g, Z3j, Z41, Z40, Z0t, Z0u, Z0v, Z0s, Z1f, Z4c, Z4b, Z4d, Z4a, Z49, ex, Z43, Z42, ev_t, ev_c, Z27, Z26, Z4e, Z4f, Z2m, Z2l, Z2f, Z2j, Z2k, Z2g, Z2h, Z2i, putc, exBslice, lfill, exField, exIdxV, exIdxP, exBox, exAlloc, exLoad, exStore, exFieldA, exIdxA, exLen, exPick, exUn, exBeq, exMM, exSeq, seqGo, exExt, binV, intOp, subc, AV.solid, S0, encI, encB]
    refine ed2 hp (by have := (edge_len cur ⟨lo, hig⟩).1; omega) st1 ?_
    rintro f2 S2 ⟨q0, q4, q5, q6, qc, qv, qids⟩
    simp [Z0h, Z0c, Z0d, Z09, Z0a, Z0i, Z0b, Z0f, Z0g, Z2z, Z2y, Z07, Z08, Z06, Z01, Z02, Z00, Z04, Z05, Z03, Z1z, Z1y, Z46, Z48, Z47, Z45, Z1n, Z1o, Z1m, Z3n, Z3k, Z3m, Z3l, Z3o, Z1l, Z29, Z32, Z3x, Z1i, Z1j, Z1k, Z3v, Z3w, Z1g, Z28, Z1h, Z3i, Z3f, Z3h, Z3g, Z3j, Z41, Z40, Z0t, Z0u, Z0v, Z0s, Z1f, Z4c, Z4b, Z4d, Z4a, Z49, ex, Z43, Z42, ev_t, ev_c, Z27, Z26, Z4e, Z4f, Z2m, Z2l, Z2f, Z2j, Z2k, Z2g, Z2h, Z2i, putc, exBslice, lfill, exField, exIdxV, exIdxP, exBox, exAlloc, exLoad, exStore, exFieldA, exIdxA, exLen, exPick, exUn, exBeq, exMM, exSeq, seqGo, exExt, binV, intOp, subc, AV.solid, S0, encI, encB]
    exact hq _ _ ⟨q0, q4, q5, qv, fun x hx => (qids x hx).1⟩
def edI (sets : List (List Rg)) (i : Nat) (l : List Rg) (cur0 : List Int) (m : Nat) (f : AF) (S : St) : Prop :=
  ∃ k, k ≤ l.length ∧ m = l.length - k ∧ (400 < l.length → k = 0) ∧ EB sets i k ((l.take k).foldl (fun o r => edge2 (edge1 o r) r) cur0) f S
theorem ed_in {P : Program} {fp : FuncId} {sets : List (List Rg)} {i : Nat} {cur : List Int} (hp : ∀ l n, l.length ≤ 100000 → PureC P fp [encIs l, encI n] (encIs (putF l n))) (hl : cur.length ≤ 98000) (hi : i < sets.length) {f : AF} {S : St} {Q : Exit → AF → St → Prop}
    (st : EB sets i 0 cur f S) (hq : ∀ f' S' k', EB sets i k' (edgeS cur sets[i]) f' S' → Q .normal f' S') : AW P (c_ed_in fp) Q f S := by
  have hiI : (i : Int) < sets.length := by omega
  have hgi : sets[i]? = some sets[i] := List.getElem?_eq_getElem hi
  generalize hlg : sets[i] = l at *
  simp [Z0h, Z0c, Z0d, Z09, Z0a, Z0i, Z0b, Z0f, Z0g, Z2z, Z2y, Z07, Z08, Z06, Z01, Z02, Z00, Z04, Z05, Z03, Z1z, Z1y, Z46, Z48, Z47, Z45, Z1n, Z1o, Z1m, Z3n, Z3k, Z3m, Z3l, Z3o, Z1l, Z29, Z32, Z3x, Z1i, Z1j, Z1k, Z3v, Z3w, Z1g, Z28, Z1h, Z3i, Z3f, Z3h, Z3g, Z3j, Z41, Z40, Z0t, Z0u, Z0v, Z0s, Z1f, Z4c, Z4b, Z4d, Z4a, Z49, ex, Z43, Z42, ev_t, ev_c, Z27, Z26, Z4e, Z4f, Z2m, Z2l, Z2f, Z2j, Z2k, Z2g, Z2h, Z2i, putc, exBslice, lfill, exField, exIdxV, exIdxP, exBox, exAlloc, exLoad, exStore, exFieldA, exIdxA, exLen, exPick, exUn, exBeq, exMM, exSeq, seqGo, exExt, binV, intOp, subc, AV.solid, S0, encI, encB, c_ed_in]
  refine AW_loop (edI sets i l cur) l.length ⟨0, by omega, rfl, fun _ => rfl, st⟩ ?_
  rintro m f S ⟨k, hk, rfl, hk0, st⟩
  obtain ⟨e0, e4, e5, v, ids⟩ := id st
  by_cases hlt : k < l.length
  · have hkI : (k : Int) < l.length := by omega
    by_cases hbig : l.length ≤ 400
    · have hbI : (l.length : Int) ≤ 400 := by omega
      have hw : IntKind.i64.wrap ((k : Int) + 1) = (k : Int) + 1 := wrap_in _ (by omega)
      have hcl := edgeF_len (l.take k) cur
      have htk : (l.take k).length = k := by simp; omega
      simp [Z0h, Z0c, Z0d, Z09, Z0a, Z0i, Z0b, Z0f, Z0g, Z2z, Z2y, Z07, Z08, Z06, Z01, Z02, Z00, Z04, Z05, Z03, Z1z, Z1y, Z46, Z48, Z47, Z45, Z1n, Z1o, Z1m, Z3n, Z3k, Z3m, Z3l, Z3o, Z1l, Z29, Z32, Z3x, Z1i, Z1j, Z1k, Z3v, Z3w, Z1g, Z28, Z1h, Z3i, Z3f, Z3h, Z3g, Z3j, Z41, Z40, Z0t, Z0u, Z0v, Z0s, Z1f, Z4c, Z4b, Z4d, Z4a, Z49, ex, Z43, Z42, ev_t, ev_c, Z27, Z26, Z4e, Z4f, Z2m, Z2l, Z2f, Z2j, Z2k, Z2g, Z2h, Z2i, putc, exBslice, lfill, exField, exIdxV, exIdxP, exBox, exAlloc, exLoad, exStore, exFieldA, exIdxA, exLen, exPick, exUn, exBeq, exMM, exSeq, seqGo, exExt, binV, intOp, subc, AV.solid, S0, encI, encB, e0, e4, e5, encRss, encRs, hiI, hi, hgi, hkI, hlt, hbI, hbig, hlg]
      refine ed_one (sets := sets) (i := i) (k := k) hp (cur := (l.take k).foldl (fun o r => edge2 (edge1 o r) r) cur) (by rw [htk] at hcl; omega) hi (by rw [hlg]; exact hlt) ⟨?_, ?_, ?_, ?_, ?_⟩ ?_
      · simp [Z43, e0, encRss]
      · simp [Z43, e4]
      · simp [Z43, e5]
      · simpa [Z43] using v
      · intro x hx
        simp [Z43] at hx
        have := ids x hx
        simp; omega
      · rintro f1 S1 ⟨q0, q4, q5, qv, qids⟩
        simp [Z0h, Z0c, Z0d, Z09, Z0a, Z0i, Z0b, Z0f, Z0g, Z2z, Z2y, Z07, Z08, Z06, Z01, Z02, Z00, Z04, Z05, Z03, Z1z, Z1y, Z46, Z48, Z47, Z45, Z1n, Z1o, Z1m, Z3n, Z3k, Z3m, Z3l, Z3o, Z1l, Z29, Z32, Z3x, Z1i, Z1j, Z1k, Z3v, Z3w, Z1g, Z28, Z1h, Z3i, Z3f, Z3h, Z3g, Z3j, Z41, Z40, Z0t, Z0u, Z0v, Z0s, Z1f, Z4c, Z4b, Z4d, Z4a, Z49, ex, Z43, Z42, ev_t, ev_c, Z27, Z26, Z4e, Z4f, Z2m, Z2l, Z2f, Z2j, Z2k, Z2g, Z2h, Z2i, putc, exBslice, lfill, exField, exIdxV, exIdxP, exBox, exAlloc, exLoad, exStore, exFieldA, exIdxA, exLen, exPick, exUn, exBeq, exMM, exSeq, seqGo, exExt, binV, intOp, subc, AV.solid, S0, encI, encB, q5, hw]
        refine ⟨l.length - (k + 1), by omega, k + 1, by omega, rfl, fun h => by omega, ⟨?_, ?_, ?_, ?_, ?_⟩⟩
        · simp [Z43, q0]
        · simp [Z43, q4]
        · simp [Z43, encI]
        · have hfold : (l.take (k + 1)).foldl (fun o r => edge2 (edge1 o r) r) cur = edge2 (edge1 ((l.take k).foldl (fun o r => edge2 (edge1 o r) r) cur) (sets[i][k]'(by rw [hlg]; exact hlt))) (sets[i][k]'(by rw [hlg]; exact hlt)) := by
            rw [List.take_add_one, List.getElem?_eq_getElem hlt, List.foldl_append]
            simp [hlg]
          rw [hfold]
          simpa [Z43] using qv
        · intro x hx
          simp [Z43] at hx
          have := qids x hx
          simp; omega
    · have hbI : ¬ (l.length : Int) ≤ 400 := by omega
      obtain rfl := hk0 (by omega)
      have he : edgeS cur l = cur := by unfold edgeS; rw [if_neg hbig]
      simp [Z0h, Z0c, Z0d, Z09, Z0a, Z0i, Z0b, Z0f, Z0g, Z2z, Z2y, Z07, Z08, Z06, Z01, Z02, Z00, Z04, Z05, Z03, Z1z, Z1y, Z46, Z48, Z47, Z45, Z1n, Z1o, Z1m, Z3n, Z3k, Z3m, Z3l, Z3o, Z1l, Z29, Z32, Z3x, Z1i, Z1j, Z1k, Z3v, Z3w, Z1g, Z28, Z1h, Z3i, Z3f, Z3h, Z3g, Z3j, Z41, Z40, Z0t, Z0u, Z0v, Z0s, Z1f, Z4c, Z4b, Z4d, Z4a, Z49, ex, Z43, Z42, ev_t, ev_c, Z27, Z26, Z4e, Z4f, Z2m, Z2l, Z2f, Z2j, Z2k, Z2g, Z2h, Z2i, putc, exBslice, lfill, exField, exIdxV, exIdxP, exBox, exAlloc, exLoad, exStore, exFieldA, exIdxA, exLen, exPick, exUn, exBeq, exMM, exSeq, seqGo, exExt, binV, intOp, subc, AV.solid, S0, encI, encB, e0, e4, e5, encRss, encRs, hiI, hi, hgi, hkI, hlt, hbI, hbig, hlg]
      refine hq _ _ 0 ⟨?_, ?_, ?_, ?_, ?_⟩
      · simp [Z43, e0, encRss]
      · simp [Z43, e4]
      · simp [Z43, e5]
      · rw [he]; simpa [Z43] using v
      · intro x hx
        simp [Z43] at hx
        have := ids x hx
        simp; omega
  · have hkI : ¬ (k : Int) < l.length := by omega
    have hkl : k = l.length := by omega
    have he : edgeS cur l = (l.take k).foldl (fun o r => edge2 (edge1 o r) r) cur := by
      unfold edgeS
      by_cases h4 : l.length ≤ 400
      · rw [if_pos h4, hkl, List.take_length]
      · rw [if_neg h4, hk0 (by omega)]; rfl
    simp [Z0h, Z0c, Z0d, Z09, Z0a, Z0i, Z0b, Z0f, Z0g, Z2z, Z2y, Z07, Z08, Z06, Z01, Z02, Z00, Z04, Z05, Z03, Z1z, Z1y, Z46, Z48, Z47, Z45, Z1n, Z1o, Z1m, Z3n, Z3k, Z3m, Z3l, Z3o, Z1l, Z29, Z32, Z3x, Z1i, Z1j, Z1k, Z3v, Z3w, Z1g, Z28, Z1h, Z3i, Z3f, Z3h, Z3g, Z3j, Z41, Z40, Z0t, Z0u, Z0v, Z0s, Z1f, Z4c, Z4b, Z4d, Z4a, Z49, ex, Z43, Z42, ev_t, ev_c, Z27, Z26, Z4e, Z4f, Z2m, Z2l, Z2f, Z2j, Z2k, Z2g, Z2h, Z2i, putc, exBslice, lfill, exField, exIdxV, exIdxP, exBox, exAlloc, exLoad, exStore, exFieldA, exIdxA, exLen, exPick, exUn, exBeq, exMM, exSeq, seqGo, exExt, binV, intOp, subc, AV.solid, S0, encI, encB, e0, e4, e5, encRss, encRs, hiI, hi, hgi, hkI, hlt, hlg]
    refine hq _ _ k ⟨?_, ?_, ?_, ?_, ?_⟩
    · simp [Z43, e0, encRss]
    · simp [Z43, e4]
    · simp [Z43, e5]
    · rw [he]; simpa [Z43] using v
    · intro x hx
      simp [Z43] at hx
      have := ids x hx
      simp; omega
def edO (sets : List (List Rg)) (m : Nat) (f : AF) (S : St) : Prop :=
  ∃ i, i ≤ sets.length ∧ m = sets.length - i ∧ f 0 = encRss sets ∧ f 4 = encI i ∧ Iv S.g (f 3) ((sets.take i).foldl edgeS [0]) ∧ ∀ x ∈ (f 3).ids, x < S.n
theorem edgesS_len : ∀ (l : List (List Rg)) (o : List Int), (l.foldl edgeS o).length ≤ o.length + 800 * l.length
  | [], _ => by simp
  | r :: l, o => by
    have h1 := edgesS_len l (edgeS o r)
    have h2 := edgeS_len o r
    simp only [List.foldl_cons, List.length_cons]; omega
theorem ed_out {P : Program} {fp : FuncId} {sets : List (List Rg)} (hp : ∀ l n, l.length ≤ 100000 → PureC P fp [encIs l, encI n] (encIs (putF l n))) (hl : sets.length ≤ 100) {f : AF} {S : St} {Q : Exit → AF → St → Prop}
    (h0 : edO sets sets.length f S) (hq : ∀ f' S', Iv S'.g (f' 3) (edgesF sets) → Q .normal f' S') : AW P (c_ed_out fp) Q f S := by
  simp [Z0h, Z0c, Z0d, Z09, Z0a, Z0i, Z0b, Z0f, Z0g, Z2z, Z2y, Z07, Z08, Z06, Z01, Z02, Z00, Z04, Z05, Z03, Z1z, Z1y, Z46, Z48, Z47, Z45, Z1n, Z1o, Z1m, Z3n, Z3k, Z3m, Z3l, Z3o, Z1l, Z29, Z32, Z3x, Z1i, Z1j, Z1k, Z3v, Z3w, Z1g, Z28, Z1h, Z3i, Z3f, Z3h, Z3g, Z3j, Z41, Z40, Z0t, Z0u, Z0v, Z0s, Z1f, Z4c, Z4b, Z4d, Z4a, Z49, ex, Z43, Z42, ev_t, ev_c, Z27, Z26, Z4e, Z4f, Z2m, Z2l, Z2f, Z2j, Z2k, Z2g, Z2h, Z2i, putc, exBslice, lfill, exField, exIdxV, exIdxP, exBox, exAlloc, exLoad, exStore, exFieldA, exIdxA, exLen, exPick, exUn, exBeq, exMM, exSeq, seqGo, exExt, binV, intOp, subc, AV.solid, S0, encI, encB, c_ed_out]
  refine AW_loop (edO sets) sets.length h0 ?_
  rintro m f S ⟨i, hi, rfl, e0, e4, v, ids⟩
  by_cases hlt : i < sets.length
  · have hiI : (i : Int) < sets.length := by omega
    have hlen := edgesS_len (sets.take i) [0]
    have htk : (sets.take i).length = i := by simp; omega
    rw [htk] at hlen
    simp only [List.length_cons, List.length_nil] at hlen
    simp [Z0h, Z0c, Z0d, Z09, Z0a, Z0i, Z0b, Z0f, Z0g, Z2z, Z2y, Z07, Z08, Z06, Z01, Z02, Z00, Z04, Z05, Z03, Z1z, Z1y, Z46, Z48, Z47, Z45, Z1n, Z1o, Z1m, Z3n, Z3k, Z3m, Z3l, Z3o, Z1l, Z29, Z32, Z3x, Z1i, Z1j, Z1k, Z3v, Z3w, Z1g, Z28, Z1h, Z3i, Z3f, Z3h, Z3g, Z3j, Z41, Z40, Z0t, Z0u, Z0v, Z0s, Z1f, Z4c, Z4b, Z4d, Z4a, Z49, ex, Z43, Z42, ev_t, ev_c, Z27, Z26, Z4e, Z4f, Z2m, Z2l, Z2f, Z2j, Z2k, Z2g, Z2h, Z2i, putc, exBslice, lfill, exField, exIdxV, exIdxP, exBox, exAlloc, exLoad, exStore, exFieldA, exIdxA, exLen, exPick, exUn, exBeq, exMM, exSeq, seqGo, exExt, binV, intOp, subc, AV.solid, S0, encI, encB, e0, e4, encRss, hiI, hlt]
    refine ed_in (sets := sets) (i := i) (cur := (sets.take i).foldl edgeS [0]) hp (by omega) hlt ⟨?_, ?_, ?_, ?_, ?_⟩ ?_
    · simp [Z43, e0, encRss]
    · simp [Z43, e4]
    · simp [Z43, encI]
    · simpa [Z43] using v
    · intro x hx
      simp [Z43] at hx
      have := ids x hx
      simp; omega
    · rintro f1 S1 k' ⟨q0, q4, q5, qv, qids⟩
      simp [Z0h, Z0c, Z0d, Z09, Z0a, Z0i, Z0b, Z0f, Z0g, Z2z, Z2y, Z07, Z08, Z06, Z01, Z02, Z00, Z04, Z05, Z03, Z1z, Z1y, Z46, Z48, Z47, Z45, Z1n, Z1o, Z1m, Z3n, Z3k, Z3m, Z3l, Z3o, Z1l, Z29, Z32, Z3x, Z1i, Z1j, Z1k, Z3v, Z3w, Z1g, Z28, Z1h, Z3i, Z3f, Z3h, Z3g, Z3j, Z41, Z40, Z0t, Z0u, Z0v, Z0s, Z1f, Z4c, Z4b, Z4d, Z4a, Z49, ex, Z43, Z42, ev_t, ev_c, Z27, Z26, Z4e, Z4f, Z2m, Z2l, Z2f, Z2j, Z2k, Z2g, Z2h, Z2i, putc, exBslice, lfill, exField, exIdxV, exIdxP, exBox, exAlloc, exLoad, exStore, exFieldA, exIdxA, exLen, exPick, exUn, exBeq, exMM, exSeq, seqGo, exExt, binV, intOp, subc, AV.solid, S0, encI, encB, q4]
      rw [wrap_in _ (by omega)]
      refine ⟨sets.length - (i + 1), by omega, i + 1, by omega, rfl, ?_, ?_, ?_, ?_⟩
      · simp [Z43, q0]
      · simp [Z43, encI]
      · have hfold : (sets.take (i + 1)).foldl edgeS [0] = edgeS ((sets.take i).foldl edgeS [0]) sets[i] := by
          rw [List.take_add_one, List.getElem?_eq_getElem hlt, List.foldl_append]; rfl
        rw [hfold]
        simpa [Z43] using qv
      · intro x hx
        simp [Z43] at hx
        have := qids x hx
        simp; omega
  · have hiI : ¬ (i : Int) < sets.length := by omega
    have hil : i = sets.length := by omega
    simp [Z0h, Z0c, Z0d, Z09, Z0a, Z0i, Z0b, Z0f, Z0g, Z2z, Z2y, Z07, Z08, Z06, Z01, Z02, Z00, Z04, Z05, Z03, Z1z, Z1y, Z46, Z48, Z47, Z45, Z1n, Z1o, Z1m, Z3n, Z3k, Z3m, Z3l, Z3o, Z1l, Z29, Z32, Z3x, Z1i, Z1j, Z1k, Z3v, Z3w, Z1g, Z28, Z1h, Z3i, Z3f, Z3h, Z3g, Z3j, Z41, Z40, Z0t, Z0u, Z0v, Z0s, Z1f, Z4c, Z4b, Z4d, Z4a, Z49, ex, Z43, Z42, ev_t, ev_c, Z27, Z26, Z4e, Z4f, Z2m, Z2l, Z2f, Z2j, Z2k, Z2g, Z2h, Z2i, putc, exBslice, lfill, exField, exIdxV, exIdxP, exBox, exAlloc, exLoad, exStore, exFieldA, exIdxA, exLen, exPick, exUn, exBeq, exMM, exSeq, seqGo, exExt, binV, intOp, subc, AV.solid, S0, encI, encB, e0, e4, encRss, hiI, hlt]
    refine hq _ _ ?_
    rw [hil, List.take_length] at v
    simp only [edgesF]
    simpa [Z43] using v
theorem caesuraref01_Edges_body {P : Program} {fp : FuncId} (sets : List (List Rg)) (hp : ∀ l n, l.length ≤ 100000 → PureC P fp [encIs l, encI n] (encIs (putF l n))) (hl : sets.length ≤ 100) :
    AW P (c_caesuraref01_Edges fp) (RetK [2] (FzK (encIs (edgesF sets)))) (argF [encRss sets]) S0 := by
  simp [Z0h, Z0c, Z0d, Z09, Z0a, Z0i, Z0b, Z0f, Z0g, Z2z, Z2y, Z07, Z08, Z06, Z01, Z02, Z00, Z04, Z05, Z03, Z1z, Z1y, Z46, Z48, Z47, Z45, Z1n, Z1o, Z1m, Z3n, Z3k, Z3m, Z3l, Z3o, Z1l, Z29, Z32, Z3x, Z1i, Z1j, Z1k, Z3v, Z3w, Z1g, Z28, Z1h, Z3i, Z3f, Z3h, Z3g, Z3j, Z41, Z40, Z0t, Z0u, Z0v, Z0s, Z1f, Z4c, Z4b, Z4d, Z4a, Z49, ex, Z43, Z42, ev_t, ev_c, Z27, Z26, Z4e, Z4f, Z2m, Z2l, Z2f, Z2j, Z2k, Z2g, Z2h, Z2i, putc, exBslice, lfill, exField, exIdxV, exIdxP, exBox, exAlloc, exLoad, exStore, exFieldA, exIdxA, exLen, exPick, exUn, exBeq, exMM, exSeq, seqGo, exExt, binV, intOp, subc, AV.solid, S0, encI, encB, c_caesuraref01_Edges]
  refine ed_out hp hl ?_ ?_
  · refine ⟨0, by omega, rfl, ?_, ?_, ?_, ?_⟩
    · simp [Z43, Z27, Z26]
    · simp [Z43, encI]
    · exact .inl ⟨true, by simp [Z43, encI]⟩
    · simp [Z43, AV.ids]
  · intro f S v
    simp [Z0h, Z0c, Z0d, Z09, Z0a, Z0i, Z0b, Z0f, Z0g, Z2z, Z2y, Z07, Z08, Z06, Z01, Z02, Z00, Z04, Z05, Z03, Z1z, Z1y, Z46, Z48, Z47, Z45, Z1n, Z1o, Z1m, Z3n, Z3k, Z3m, Z3l, Z3o, Z1l, Z29, Z32, Z3x, Z1i, Z1j, Z1k, Z3v, Z3w, Z1g, Z28, Z1h, Z3i, Z3f, Z3h, Z3g, Z3j, Z41, Z40, Z0t, Z0u, Z0v, Z0s, Z1f, Z4c, Z4b, Z4d, Z4a, Z49, ex, Z43, Z42, ev_t, ev_c, Z27, Z26, Z4e, Z4f, Z2m, Z2l, Z2f, Z2j, Z2k, Z2g, Z2h, Z2i, putc, exBslice, lfill, exField, exIdxV, exIdxP, exBox, exAlloc, exLoad, exStore, exFieldA, exIdxA, exLen, exPick, exUn, exBeq, exMM, exSeq, seqGo, exExt, binV, intOp, subc, AV.solid, S0, encI, encB]
    exact v.fz
end Go.Rf
