import Derived.Test.YtajombmjidnbcaaDoorRfP3
/- Own work: the document's classes, and its least one. -/
set_option linter.unusedVariables false
set_option linter.unusedSimpArgs false
namespace Go.Rf
open Go.RowKit
def c_rc_find : AC :=
  (.block 2 (.loop (.seq (.seq (.reg none [
        ⟨(some 19), .mv (.t 7), none, none⟩,
        ⟨(some 20), .mv (.t 6), none, none⟩,
        ⟨(some 21), .bin .lss (.t 19) (.t 20), none, none⟩,
        ⟨(some 22), .mv (.t 21), none, none⟩,
        ⟨(some 23), .mv (.t 3), (some (22, true)), none⟩,
        ⟨(some 24), .mv (.t 6), (some (22, true)), none⟩,
        ⟨(some 25), .idxA 1 (.t 23) (.t 24), (some (22, true)), none⟩,
        ⟨(some 26), .load none (.t 25), (some (22, true)), none⟩,
        ⟨(some 27), .mv (.t 7), (some (22, true)), none⟩,
        ⟨(some 28), .idxA 1 (.t 26) (.t 27), (some (22, true)), none⟩,
        ⟨(some 29), .load none (.t 28), (some (22, true)), none⟩,
        ⟨(some 30), .pick (.t 22) (.t 29) (.c (.v (.bool false))), none, none⟩])
       (.cond (.t 30) .skip (.exit 2)))
       (.block 3 (.reg none [
         ⟨(some 31), .mv (.t 7), none, none⟩,
         ⟨(some 32), .bin .add (.t 31) (.c (.v (.int .i64 1))), none, none⟩,
         ⟨(some 7), .mv (.t 32), none, none⟩])))))
def c_rc_num : AC :=
  (.seq (.reg none [
      ⟨(some 33), .mv (.t 7), none, none⟩,
      ⟨(some 34), .mv (.t 6), none, none⟩,
      ⟨(some 35), .bin .lss (.t 33) (.t 34), none, none⟩])
     (.cond (.t 35) (.reg none [
       ⟨(some 36), .mv (.t 4), none, none⟩,
       ⟨(some 37), .mv (.t 4), none, none⟩,
       ⟨(some 38), .mv (.t 7), none, none⟩,
       ⟨(some 39), .idxA 1 (.t 37) (.t 38), none, none⟩,
       ⟨(some 40), .load none (.t 39), none, none⟩,
       ⟨(some 41), .bslice 1 1 (.v (.int .i64 0)) [(0, (.t 40))], none, none⟩,
       ⟨(some 42), .app 1 8 (.t 36) (.t 41), none, none⟩,
       ⟨(some 4), .mv (.t 42), none, none⟩]) (.seq (.reg none [
       ⟨(some 43), .mv (.t 4), none, none⟩,
       ⟨(some 44), .mv (.t 5), none, none⟩,
       ⟨(some 45), .bslice 1 1 (.v (.int .i64 0)) [(0, (.t 44))], none, none⟩,
       ⟨(some 46), .app 1 8 (.t 43) (.t 45), none, none⟩,
       ⟨(some 4), .mv (.t 46), none, none⟩])
      (.reg none [
       ⟨(some 47), .mv (.t 5), none, none⟩,
       ⟨(some 48), .bin .add (.t 47) (.c (.v (.int .i64 1))), none, none⟩,
       ⟨(some 5), .mv (.t 48), none, none⟩]))))
def c_caesuraref17_Classes (f_caesuraref15_Right f_caesuraref17_apart : FuncId) : AC :=
  (.seq (.reg none [
   ⟨(some 1), .box 3 (.t 0), none, none⟩,
   ⟨(some 2), .mv (.c (.sl true [])), none, none⟩])
  (.seq (.seq (.reg none [
   ⟨(some 8), .load (some 3) (.t 1), none, none⟩,
   ⟨(some 9), .mv (.c .junk), none, (some ((.c (.clo f_caesuraref15_Right [] [])), [(.t 8)]))⟩,
   ⟨(some 10), .un .not (.t 9), none, none⟩])
  (.cond (.t 10) (.seq (.reg none [
    ⟨(some 2), .mv (.c (.sl true [])), none, none⟩])
   .ret) .skip))
  (.seq (.reg none [
   ⟨(some 11), .load (some 3) (.t 1), none, none⟩,
   ⟨(some 12), .mv (.c .junk), none, (some ((.c (.clo f_caesuraref17_apart [] [])), [(.t 11)]))⟩,
   ⟨(some 3), .mv (.t 12), none, none⟩])
  (.seq (.reg none [
   ⟨(some 4), .mv (.c (.sl true [])), none, none⟩])
  (.seq (.reg none [
   ⟨(some 5), .mv (.c (.v (.int .i64 0))), none, none⟩])
  (.seq (.seq (.reg none [
   ⟨(some 6), .mv (.c (.v (.int .i64 0))), none, none⟩])
  (.block 0 (.loop (.seq (.seq (.reg none [
     ⟨(some 13), .mv (.t 6), none, none⟩,
     ⟨(some 14), .mv (.t 3), none, none⟩,
     ⟨(some 15), .len (.t 14), none, none⟩,
     ⟨(some 16), .bin .lss (.t 13) (.t 15), none, none⟩])
    (.cond (.t 16) .skip (.exit 0)))
    (.seq (.block 1 (.seq (.reg none [
      ⟨(some 7), .mv (.c (.v (.int .i64 0))), none, none⟩])
     (.seq c_rc_find
     c_rc_num)))
    (.reg none [
     ⟨(some 17), .mv (.t 6), none, none⟩,
     ⟨(some 18), .bin .add (.t 17) (.c (.v (.int .i64 1))), none, none⟩,
     ⟨(some 6), .mv (.t 18), none, none⟩]))))))
  (.seq (.reg none [
   ⟨(some 49), .mv (.t 4), none, none⟩,
   ⟨(some 2), .mv (.t 49), none, none⟩])
  .ret)))))))
def c_ro_add : AC :=
  (.reg (some [[], [], [], [], [], [true], [false, true], [false, false, true], [false, false, false, true], [false, false, false, false, true], [false, false, false, false, false, true], [false, false, false, false, false, false, true], [false, false, false, false, false, false, false, true], [false, false, false, false, false, false, false, false, true], [false, false, false, false, false, false, false, false, false, true], [false, false, false, false, false, false, false, false, false, false, true], [], [true]]) [
      ⟨(some 77), .fieldA 1 (.t 6), none, none⟩,
      ⟨(some 78), .load none (.t 77), none, none⟩,
      ⟨(some 79), .mv (.t 8), none, none⟩,
      ⟨(some 80), .bslice 1 1 (.sl true []) [(0, (.t 79))], none, none⟩,
      ⟨(some 81), .app 1 24 (.t 78) (.t 80), none, none⟩,
      ⟨(some 82), .fieldA 2 (.t 6), none, none⟩,
      ⟨(some 83), .load none (.t 82), none, none⟩,
      ⟨(some 84), .fieldA 2 (.t 1), none, none⟩,
      ⟨(some 85), .load none (.t 84), none, none⟩,
      ⟨(some 86), .mv (.t 5), none, none⟩,
      ⟨(some 87), .mv (.t 7), none, none⟩,
      ⟨(some 88), .idxA 1 (.t 86) (.t 87), none, none⟩,
      ⟨(some 89), .load none (.t 88), none, none⟩,
      ⟨(some 90), .idxA 1 (.t 85) (.t 89), none, none⟩,
      ⟨(some 91), .load none (.t 90), none, none⟩,
      ⟨(some 92), .bslice 1 1 (.v (.bool false)) [(0, (.t 91))], none, none⟩,
      ⟨(some 93), .app 1 1 (.t 83) (.t 92), none, none⟩,
      ⟨(some 94), .fieldA 1 (.t 6), none, none⟩,
      ⟨none, .store 1 (.t 94) (.t 81), none, none⟩,
      ⟨(some 95), .fieldA 2 (.t 6), none, none⟩,
      ⟨none, .store 1 (.t 95) (.t 93), none, none⟩])
def c_ro_find : AC :=
  (.block 4 (.loop (.seq (.seq (.reg (some []) [
           ⟨(some 45), .mv (.t 11), none, none⟩,
           ⟨(some 46), .mv (.t 5), none, none⟩,
           ⟨(some 47), .len (.t 46), none, none⟩,
           ⟨(some 48), .bin .lss (.t 45) (.t 47), none, none⟩,
           ⟨(some 49), .mv (.t 48), none, none⟩,
           ⟨(some 50), .mv (.t 4), (some (49, true)), none⟩,
           ⟨(some 51), .mv (.t 5), (some (49, true)), none⟩,
           ⟨(some 52), .mv (.t 11), (some (49, true)), none⟩,
           ⟨(some 53), .idxA 1 (.t 51) (.t 52), (some (49, true)), none⟩,
           ⟨(some 54), .load none (.t 53), (some (49, true)), none⟩,
           ⟨(some 55), .idxA 1 (.t 50) (.t 54), (some (49, true)), none⟩,
           ⟨(some 56), .load none (.t 55), (some (49, true)), none⟩,
           ⟨(some 57), .mv (.t 4), (some (49, true)), none⟩,
           ⟨(some 58), .mv (.t 10), (some (49, true)), none⟩,
           ⟨(some 59), .idxA 1 (.t 57) (.t 58), (some (49, true)), none⟩,
           ⟨(some 60), .load none (.t 59), (some (49, true)), none⟩,
           ⟨(some 61), .bin .neq (.t 56) (.t 60), (some (49, true)), none⟩,
           ⟨(some 62), .pick (.t 49) (.t 61) (.c (.v (.bool false))), none, none⟩])
          (.cond (.t 62) .skip (.exit 4)))
          (.block 5 (.reg none [
            ⟨(some 63), .mv (.t 11), none, none⟩,
            ⟨(some 64), .bin .add (.t 63) (.c (.v (.int .i64 1))), none, none⟩,
            ⟨(some 11), .mv (.t 64), none, none⟩])))))
def c_ro_row : AC :=
  (.block 2 (.loop (.seq (.seq (.reg none [
        ⟨(some 28), .mv (.t 9), none, none⟩,
        ⟨(some 29), .fieldA 0 (.t 1), none, none⟩,
        ⟨(some 30), .load none (.t 29), none, none⟩,
        ⟨(some 31), .bin .lss (.t 28) (.t 30), none, none⟩])
       (.cond (.t 31) .skip (.exit 2)))
       (.seq (.block 3 (.seq (.reg (some []) [
         ⟨(some 34), .fieldA 1 (.t 1), none, none⟩,
         ⟨(some 35), .load none (.t 34), none, none⟩,
         ⟨(some 36), .mv (.t 5), none, none⟩,
         ⟨(some 37), .mv (.t 7), none, none⟩,
         ⟨(some 38), .idxA 1 (.t 36) (.t 37), none, none⟩,
         ⟨(some 39), .load none (.t 38), none, none⟩,
         ⟨(some 40), .idxA 1 (.t 35) (.t 39), none, none⟩,
         ⟨(some 41), .load none (.t 40), none, none⟩,
         ⟨(some 42), .mv (.t 9), none, none⟩,
         ⟨(some 43), .idxA 1 (.t 41) (.t 42), none, none⟩,
         ⟨(some 44), .load none (.t 43), none, none⟩,
         ⟨(some 10), .mv (.t 44), none, none⟩])
        (.seq (.reg none [
         ⟨(some 11), .mv (.c (.v (.int .i64 0))), none, none⟩])
        (.seq c_ro_find
        (.seq (.seq (.reg none [
         ⟨(some 65), .mv (.t 11), none, none⟩,
         ⟨(some 66), .mv (.t 5), none, none⟩,
         ⟨(some 67), .len (.t 66), none, none⟩,
         ⟨(some 68), .bin .eql (.t 65) (.t 67), none, none⟩])
        (.cond (.t 68) (.reg none [
          ⟨(some 69), .mv (.t 5), none, none⟩,
          ⟨(some 70), .mv (.t 10), none, none⟩,
          ⟨(some 71), .bslice 1 1 (.v (.int .i64 0)) [(0, (.t 70))], none, none⟩,
          ⟨(some 72), .app 1 8 (.t 69) (.t 71), none, none⟩,
          ⟨(some 5), .mv (.t 72), none, none⟩]) .skip))
        (.reg none [
         ⟨(some 73), .mv (.t 8), none, none⟩,
         ⟨(some 74), .mv (.t 11), none, none⟩,
         ⟨(some 75), .bslice 1 1 (.v (.int .i64 0)) [(0, (.t 74))], none, none⟩,
         ⟨(some 76), .app 1 8 (.t 73) (.t 75), none, none⟩,
         ⟨(some 8), .mv (.t 76), none, none⟩]))))))
       (.reg none [
        ⟨(some 32), .mv (.t 9), none, none⟩,
        ⟨(some 33), .bin .add (.t 32) (.c (.v (.int .i64 1))), none, none⟩,
        ⟨(some 9), .mv (.t 33), none, none⟩])))))
def c_ro_out : AC :=
  (.block 0 (.loop (.seq (.seq (.reg none [
     ⟨(some 22), .mv (.t 7), none, none⟩,
     ⟨(some 23), .mv (.t 5), none, none⟩,
     ⟨(some 24), .len (.t 23), none, none⟩,
     ⟨(some 25), .bin .lss (.t 22) (.t 24), none, none⟩])
    (.cond (.t 25) .skip (.exit 0)))
    (.seq (.block 1 (.seq (.reg none [
      ⟨(some 8), .mv (.c (.sl true [])), none, none⟩])
     (.seq (.seq (.reg none [
      ⟨(some 9), .mv (.c (.v (.int .i64 0))), none, none⟩])
     c_ro_row)
     c_ro_add)))
    (.reg none [
     ⟨(some 26), .mv (.t 7), none, none⟩,
     ⟨(some 27), .bin .add (.t 26) (.c (.v (.int .i64 1))), none, none⟩,
     ⟨(some 7), .mv (.t 27), none, none⟩])))))
def c_ro_fin : AC :=
  (.seq (.reg none [
   ⟨(some 96), .load (some 3) (.t 6), none, none⟩,
   ⟨none, .store 3 (.t 2) (.t 96), none, none⟩,
   ⟨(some 3), .mv (.c (.v (.int .i64 0))), none, none⟩])
  .ret)
def c_caesuraref17_Of (f_caesuraref15_Right f_caesuraref17_Classes : FuncId) : AC :=
  (.seq (.reg none [
   ⟨(some 1), .box 3 (.t 0), none, none⟩,
   ⟨(some 2), .alloc (.agg [(.v (.int .i64 0)), (.sl true []), (.sl true [])]) 3, none, none⟩,
   ⟨(some 3), .mv (.c (.v (.int .i64 0))), none, none⟩])
  (.seq (.seq (.reg none [
   ⟨(some 12), .load (some 3) (.t 1), none, none⟩,
   ⟨(some 13), .mv (.c .junk), none, (some ((.c (.clo f_caesuraref15_Right [] [])), [(.t 12)]))⟩,
   ⟨(some 14), .un .not (.t 13), none, none⟩])
  (.cond (.t 14) (.seq (.reg none [
    ⟨(some 15), .build (.agg [(.v (.int .i64 0)), (.sl true []), (.sl true [])]) [] [], none, none⟩,
    ⟨none, .store 3 (.t 2) (.t 15), none, none⟩,
    ⟨(some 3), .mv (.c (.v (.int .i64 1))), none, none⟩])
   .ret) .skip))
  (.seq (.reg none [
   ⟨(some 16), .load (some 3) (.t 1), none, none⟩,
   ⟨(some 17), .mv (.c .junk), none, (some ((.c (.clo f_caesuraref17_Classes [] [])), [(.t 16)]))⟩,
   ⟨(some 4), .mv (.t 17), none, none⟩])
  (.seq (.reg none [
   ⟨(some 18), .bslice 1 1 (.v (.int .i64 0)) [(0, (.c (.v (.int .i64 0))))], none, none⟩,
   ⟨(some 5), .mv (.t 18), none, none⟩])
  (.seq (.reg none [
   ⟨(some 19), .fieldA 0 (.t 1), none, none⟩,
   ⟨(some 20), .load none (.t 19), none, none⟩,
   ⟨(some 21), .build (.agg [(.v (.int .i64 0)), (.sl true []), (.sl true [])]) [(0, 1)] [(0, (.t 20))], none, none⟩,
   ⟨(some 6), .alloc (.agg [(.v (.int .i64 0)), (.sl true []), (.sl true [])]) 3, none, none⟩,
   ⟨none, .store 3 (.t 6) (.t 21), none, none⟩])
  (.seq (.seq (.reg none [
   ⟨(some 7), .mv (.c (.v (.int .i64 0))), none, none⟩])
  c_ro_out)
  c_ro_fin))))))
def encBss (l : List (List Bool)) : AV := .sl false (l.map encBs)
theorem closed_Bss (l : List (List Bool)) : Closed (encBss l) := .sl _ _ (Cls_map Z2p l)
theorem exLen_Bss (l : List (List Bool)) : exLen (encBss l) = some (.v (.int .i64 l.length)) := by simp [encBss, exLen]
theorem idx_Bss {S : St} {nid : Nat} {l : List (List Bool)} {k : IntKind} {n : Int} (hn : 0 ≤ n) (hlt : n < l.length) : (exIdxA 1 (encBss l) (.v (.int k n))).run S nid = some (.eptr (encBs (l.getD n.toNat [])) 0, S) := by
  have hl : n.toNat < l.length := by omega
  simp [encBss, exIdxA, hn, List.getElem?_eq_getElem hl, List.getD_eq_getElem?_getD, AV.cells, encBs]
/-- Which states are told apart. -/
def apRow (c : List Int) (n i : Nat) : List Bool := (List.range n).map fun k => decide (clsN c i ≠ clsN c k)
def apM (c : List Int) (n : Nat) : List (List Bool) := (List.range n).map fun i => apRow c n i
theorem apM_len (c : List Int) (n : Nat) : (apM c n).length = n := by simp [apM]
theorem apRow_len (c : List Int) (n i : Nat) : (apRow c n i).length = n := by simp [apRow]
theorem apM_get (c : List Int) {n i : Nat} (h : i < n) : (apM c n).getD i [] = apRow c n i := by simp [apM, List.getD_eq_getElem?_getD, h]
theorem apRow_get (c : List Int) {n i k : Nat} (h : k < n) : (apRow c n i).getD k false = decide (clsN c i ≠ clsN c k) := by simp [apRow, List.getD_eq_getElem?_getD, h]
abbrev RcS := List Int × Bool
def rcsI (c : List Int) (i : Nat) (s : RcS) : Prop := s.1 = (numF1 (c.take i)).2
def rcsA (c : List Int) (i : Nat) (s : RcS) : List (Nat × AV) := [(1, .ptr 0 0 0), (3, encBss (apM c c.length)), (4, vV s.2 1 (s.1.map encI)), (5, encI (numF1 (c.take i)).1.length), (6, encI i)]
def rcsG (d : Det) (_ : Nat) (s : RcS) : List (Nat × Option Blk) := [(0, some (.arr 3 [encDet d])), (1, vB s.2 1 (s.1.map encI))]
def rfI (c : List Int) (i : Nat) (k : Nat) (_ : Unit) : Prop := ∀ j, j < k → clsN c i ≠ clsN c j
def rfA (c : List Int) (i : Nat) (s : RcS) (k : Nat) (_ : Unit) : List (Nat × AV) := (7, encI k) :: rcsA c i s
def rfG (d : Det) (s : RcS) (_ : Nat) (_ : Unit) : List (Nat × Option Blk) := rcsG d 0 s
theorem ref17_Classes_body {P : Program} {fr fa : FuncId} {d : Det} (hr : PureC P fr [encDet d] (encB (rightD d))) (ha : RightD d → PureC P fa [encDet d] (encBss (apM (classesD d) d.next.length))) :
    AWb P 0 (c_caesuraref17_Classes fr fa) (RetK [2] (FzK (encIs (if rightD d = true then classesD d else [])))) (argF [encDet d]) S0 := by
  simp [AWb_seq, Z0m, Z0n, Z0j, Z0k, Z0r, Z0l, Z0p, Z0q, Z0o, Z21, Z20, Z22, Z23, Z3d, Z3e, Z3a, vIdx, Z4x, Z4w, Z4y, vApp, Z4u, Z3u, Z11, Z10, Z0z, Z0x, Z0w, Z0y, Z17, Z16, Z15, Z13, Z12, Z14, Z2c, Z2d, Z2a, Z2n, Z31, Z30, Z07, Z08, Z06, Z01, Z02, Z00, Z04, Z05, Z03, Z1z, Z1y, Z46, Z48, Z47, Z45, Z1n, Z1o, Z1m, Z3n, Z3k, Z3m, Z3l, Z3o, Z1l, Z29, Z32, Z3x, Z1i, Z1j, Z1k, Z3v, Z3w, Z1g, Z28, Z1h, Z3i, Z3f, Z3h, Z3g, Z3j, Z41, Z40, Z0t, Z0u, Z0v, Z0s, Z1f, Z4c, Z4b, Z4d, Z4a, Z49, ex, Z43, Z42, ev_t, ev_c, Z27, Z26, Z4e, Z4f, Z2m, Z2l, Z2f, Z2j, Z2k, Z2g, Z2h, Z2i, putc, exBslice, lfill, exField, exIdxV, exIdxP, exBox, exAlloc, Z3b, Z3c, exStore, exFieldA, Z34, Z33, Z39, Z38, exPick, exUn, exBeq, exMM, exSeq, seqGo, exExt, binV, intOp, subc, Z4s, Z4r, Z4p, Z4q, Z4n, Z4l, Z4m, Z4o, Z4i, Z4j, Z4g, Z4t, S0, encI, encB, Z4k, Z2e, Z25, Z4h, Z2b, Z24, Z36, Z37, Z35, Z3s, Z3t, Z3r, Z3p, Z3q, idxT_Bs, c_caesuraref17_Classes]
  refine CallR.pure hr (cl_cons (closed_Det d) cl_nil) (Z2o _) ?_
  cases hb : rightD d with
  | false =>
    simp [AWb_seq, Z0m, Z0n, Z0j, Z0k, Z0r, Z0l, Z0p, Z0q, Z0o, Z21, Z20, Z22, Z23, Z3d, Z3e, Z3a, vIdx, Z4x, Z4w, Z4y, vApp, Z4u, Z3u, Z11, Z10, Z0z, Z0x, Z0w, Z0y, Z17, Z16, Z15, Z13, Z12, Z14, Z2c, Z2d, Z2a, Z2n, Z31, Z30, Z07, Z08, Z06, Z01, Z02, Z00, Z04, Z05, Z03, Z1z, Z1y, Z46, Z48, Z47, Z45, Z1n, Z1o, Z1m, Z3n, Z3k, Z3m, Z3l, Z3o, Z1l, Z29, Z32, Z3x, Z1i, Z1j, Z1k, Z3v, Z3w, Z1g, Z28, Z1h, Z3i, Z3f, Z3h, Z3g, Z3j, Z41, Z40, Z0t, Z0u, Z0v, Z0s, Z1f, Z4c, Z4b, Z4d, Z4a, Z49, ex, Z43, Z42, ev_t, ev_c, Z27, Z26, Z4e, Z4f, Z2m, Z2l, Z2f, Z2j, Z2k, Z2g, Z2h, Z2i, putc, exBslice, lfill, exField, exIdxV, exIdxP, exBox, exAlloc, Z3b, Z3c, exStore, exFieldA, Z34, Z33, Z39, Z38, exPick, exUn, exBeq, exMM, exSeq, seqGo, exExt, binV, intOp, subc, Z4s, Z4r, Z4p, Z4q, Z4n, Z4l, Z4m, Z4o, Z4i, Z4j, Z4g, Z4t, S0, encI, encB, Z4k, Z2e, Z25, Z4h, Z2b, Z24, Z36, Z37, Z35, Z3s, Z3t, Z3r, Z3p, Z3q, idxT_Bs]
    exact fz_nil
  | true =>
    have R := (right_iff d).mp hb
    have C := classesD_ok R
    have hn2 := R.n2
    have hcl := C.len
    have hnum := C.num
    simp [AWb_seq, Z0m, Z0n, Z0j, Z0k, Z0r, Z0l, Z0p, Z0q, Z0o, Z21, Z20, Z22, Z23, Z3d, Z3e, Z3a, vIdx, Z4x, Z4w, Z4y, vApp, Z4u, Z3u, Z11, Z10, Z0z, Z0x, Z0w, Z0y, Z17, Z16, Z15, Z13, Z12, Z14, Z2c, Z2d, Z2a, Z2n, Z31, Z30, Z07, Z08, Z06, Z01, Z02, Z00, Z04, Z05, Z03, Z1z, Z1y, Z46, Z48, Z47, Z45, Z1n, Z1o, Z1m, Z3n, Z3k, Z3m, Z3l, Z3o, Z1l, Z29, Z32, Z3x, Z1i, Z1j, Z1k, Z3v, Z3w, Z1g, Z28, Z1h, Z3i, Z3f, Z3h, Z3g, Z3j, Z41, Z40, Z0t, Z0u, Z0v, Z0s, Z1f, Z4c, Z4b, Z4d, Z4a, Z49, ex, Z43, Z42, ev_t, ev_c, Z27, Z26, Z4e, Z4f, Z2m, Z2l, Z2f, Z2j, Z2k, Z2g, Z2h, Z2i, putc, exBslice, lfill, exField, exIdxV, exIdxP, exBox, exAlloc, Z3b, Z3c, exStore, exFieldA, Z34, Z33, Z39, Z38, exPick, exUn, exBeq, exMM, exSeq, seqGo, exExt, binV, intOp, subc, Z4s, Z4r, Z4p, Z4q, Z4n, Z4l, Z4m, Z4o, Z4i, Z4j, Z4g, Z4t, S0, encI, encB, Z4k, Z2e, Z25, Z4h, Z2b, Z24, Z36, Z37, Z35, Z3s, Z3t, Z3r, Z3p, Z3q, idxT_Bs]
    refine CallR.pure (ha R) (cl_cons (closed_Det d) cl_nil) (closed_Bss _) ?_
    generalize classesD d = c at *
    rw [← hcl]
    simp [AWb_seq, Z0m, Z0n, Z0j, Z0k, Z0r, Z0l, Z0p, Z0q, Z0o, Z21, Z20, Z22, Z23, Z3d, Z3e, Z3a, vIdx, Z4x, Z4w, Z4y, vApp, Z4u, Z3u, Z11, Z10, Z0z, Z0x, Z0w, Z0y, Z17, Z16, Z15, Z13, Z12, Z14, Z2c, Z2d, Z2a, Z2n, Z31, Z30, Z07, Z08, Z06, Z01, Z02, Z00, Z04, Z05, Z03, Z1z, Z1y, Z46, Z48, Z47, Z45, Z1n, Z1o, Z1m, Z3n, Z3k, Z3m, Z3l, Z3o, Z1l, Z29, Z32, Z3x, Z1i, Z1j, Z1k, Z3v, Z3w, Z1g, Z28, Z1h, Z3i, Z3f, Z3h, Z3g, Z3j, Z41, Z40, Z0t, Z0u, Z0v, Z0s, Z1f, Z4c, Z4b, Z4d, Z4a, Z49, ex, Z43, Z42, ev_t, ev_c, Z27, Z26, Z4e, Z4f, Z2m, Z2l, Z2f, Z2j, Z2k, Z2g, Z2h, Z2i, putc, exBslice, lfill, exField, exIdxV, exIdxP, exBox, exAlloc, Z3b, Z3c, exStore, exFieldA, Z34, Z33, Z39, Z38, exPick, exUn, exBeq, exMM, exSeq, seqGo, exExt, binV, intOp, subc, Z4s, Z4r, Z4p, Z4q, Z4n, Z4l, Z4m, Z4o, Z4i, Z4j, Z4g, Z4t, S0, encI, encB, Z4k, Z2e, Z25, Z4h, Z2b, Z24, Z36, Z37, Z35, Z3s, Z3t, Z3r, Z3p, Z3q, idxT_Bs]
    refine AWb_for c.length (rcsI c) (rcsA c) 10 (rcsG d) ([], false) (by simp [rcsI, numF1]) ?_ ?_
    · refine Abs.of [(0, 0)] [] (by omega) ⟨by simp, by simp⟩ ?_ ?_
      · simp [RenL_snoc, RenL.cl, RenV.cl, Z2r, Z2o, Z2s, Z2t, Z2p, Z2v, Z2u, Z2q, Z2w, Z2x, Z1d, Z1c, Z1b, Z19, Z18, Z1a, Z1e, Z52, Z4v, Z4z, Z3y, Z51, Z50, Z3z, Z1p, Z1q, Z1x, Z1v, Z1w, Z1u, Z1t, Z1s, Z1r, Z44, Z43, Z42, Z4e, Z4f, Z22, Z23, Z3d, Z3e, Z27, Z26, vV_t, vV_f, vB_t, vB_f, encI, encB, rcsG, closed_Det]
      · simp [RenL_snoc, RenL.cl, RenV.cl, Z2r, Z2o, Z2s, Z2t, Z2p, Z2v, Z2u, Z2q, Z2w, Z2x, Z1d, Z1c, Z1b, Z19, Z18, Z1a, Z1e, Z52, Z4v, Z4z, Z3y, Z51, Z50, Z3z, Z1p, Z1q, Z1x, Z1v, Z1w, Z1u, Z1t, Z1s, Z1r, Z44, Z43, Z42, Z4e, Z4f, Z22, Z23, Z3d, Z3e, Z27, Z26, vV_t, vV_f, vB_t, vB_f, encI, encB, rcsA, numF1]
        exact .cl (closed_Bss _)
    · rintro i ⟨out, o⟩ hi hx
      simp only [rcsI] at hx
      have ok := numF1_ok (c.take i)
      have hol := ok.len
      rw [← hx] at hol
      simp only [List.length_take] at hol
      have hol2 : out.length = i := by omega
      have hkle := num_le (c.take i)
      simp only [List.length_take] at hkle
      have hml := apM_len c c.length
      by_cases hlt : i < c.length
      · have hok : appOk 8 out.length 1 := by unfold appOk; omega
        have hiI : (i : Int) < c.length := by omega
        have hci : clsN c i = c[i] := by rw [clsN, List.getD_eq_getElem?_getD, List.getElem?_eq_getElem hlt]; rfl
        have hst : numF1 (c.take (i + 1)) = numStep (numF1 (c.take i)) c[i] := by rw [List.take_succ_eq_append_getElem hlt, numF1_snoc]
        have him : i < (apM c c.length).length := by omega
        have hgi := apM_get c hlt
        rw [List.getD_eq_getElem?_getD, List.getElem?_eq_getElem him, Option.getD_some] at hgi
        have hrl := apRow_len c c.length i
        simp [AWb_seq, Z0m, Z0n, Z0j, Z0k, Z0r, Z0l, Z0p, Z0q, Z0o, Z21, Z20, Z22, Z23, Z3d, Z3e, Z3a, vIdx, Z4x, Z4w, Z4y, vApp, Z4u, Z3u, Z11, Z10, Z0z, Z0x, Z0w, Z0y, Z17, Z16, Z15, Z13, Z12, Z14, Z2c, Z2d, Z2a, Z2n, Z31, Z30, Z07, Z08, Z06, Z01, Z02, Z00, Z04, Z05, Z03, Z1z, Z1y, Z46, Z48, Z47, Z45, Z1n, Z1o, Z1m, Z3n, Z3k, Z3m, Z3l, Z3o, Z1l, Z29, Z32, Z3x, Z1i, Z1j, Z1k, Z3v, Z3w, Z1g, Z28, Z1h, Z3i, Z3f, Z3h, Z3g, Z3j, Z41, Z40, Z0t, Z0u, Z0v, Z0s, Z1f, Z4c, Z4b, Z4d, Z4a, Z49, ex, Z43, Z42, ev_t, ev_c, Z27, Z26, Z4e, Z4f, Z2m, Z2l, Z2f, Z2j, Z2k, Z2g, Z2h, Z2i, putc, exBslice, lfill, exField, exIdxV, exIdxP, exBox, exAlloc, Z3b, Z3c, exStore, exFieldA, Z34, Z33, Z39, Z38, exPick, exUn, exBeq, exMM, exSeq, seqGo, exExt, binV, intOp, subc, Z4s, Z4r, Z4p, Z4q, Z4n, Z4l, Z4m, Z4o, Z4i, Z4j, Z4g, Z4t, S0, encI, encB, Z4k, Z2e, Z25, Z4h, Z2b, Z24, Z36, Z37, Z35, Z3s, Z3t, Z3r, Z3p, Z3q, idxT_Bs, rcsA, rcsG, exLen_Bss, idx_Bss, hml, hiI, c_rc_find]
        refine AWb_for i (rfI c i) (rfA c i (out, o)) 10 (rfG d (out, o)) () (by simp [rfI]) ?_ ?_
        · refine Abs.of [(0, 0), (1, 1)] [] (by omega) ⟨by simp, by simp⟩ ?_ ?_
          · simp [RenL_snoc, RenL.cl, RenV.cl, Z2r, Z2o, Z2s, Z2t, Z2p, Z2v, Z2u, Z2q, Z2w, Z2x, Z1d, Z1c, Z1b, Z19, Z18, Z1a, Z1e, Z52, Z4v, Z4z, Z3y, Z51, Z50, Z3z, Z1p, Z1q, Z1x, Z1v, Z1w, Z1u, Z1t, Z1s, Z1r, Z44, Z43, Z42, Z4e, Z4f, Z22, Z23, Z3d, Z3e, Z27, Z26, vV_t, vV_f, vB_t, vB_f, encI, encB, rfG, rcsG, closed_Det]
          · simp [RenL_snoc, RenL.cl, RenV.cl, Z2r, Z2o, Z2s, Z2t, Z2p, Z2v, Z2u, Z2q, Z2w, Z2x, Z1d, Z1c, Z1b, Z19, Z18, Z1a, Z1e, Z52, Z4v, Z4z, Z3y, Z51, Z50, Z3z, Z1p, Z1q, Z1x, Z1v, Z1w, Z1u, Z1t, Z1s, Z1r, Z44, Z43, Z42, Z4e, Z4f, Z22, Z23, Z3d, Z3e, Z27, Z26, vV_t, vV_f, vB_t, vB_f, encI, encB, rfA, rcsA]
            exact .cl (closed_Bss _)
        · rintro k _ hk hq
          by_cases hki : k < i
          · have hkI : (k : Int) < i := by omega
            have hkr : k < (apRow c c.length i).length := by omega
            have hkc : k < c.length := by omega
            have hgk := apRow_get c (n := c.length) (i := i) (k := k) (by omega)
            rw [List.getD_eq_getElem?_getD, List.getElem?_eq_getElem hkr, Option.getD_some] at hgk
            have hko : k < out.length := by omega
            by_cases he : clsN c i = clsN c k
            · have hck : clsN c k = c[k] := by rw [clsN, List.getD_eq_getElem?_getD, List.getElem?_eq_getElem (by omega)]; rfl
              have hkt : k < (c.take i).length := by simp; omega
              have hat := ok.at_ k hkt
              rw [← hx, List.getElem_take] at hat
              rw [List.getElem?_eq_getElem hko, Option.some.injEq] at hat
              have hin : c[i] ∈ (numF1 (c.take i)).1 := by
                rw [ok.mem, ← hci, he, hck]
                exact List.mem_iff_getElem.mpr ⟨k, hkt, by simp⟩
              have hns : numStep (numF1 (c.take i)) c[i] = ((numF1 (c.take i)).1, (numF1 (c.take i)).2 ++ [out[k]]) := by
                rw [numStep, if_pos (by simpa using hin), hat]
                congr 5
                rw [← hck, ← he, hci]
              have hdk : decide (clsN c i ≠ clsN c k) = false := by simp [he]
              rw [hdk] at hgk
              rw [hns] at hst
              simp [AWb_seq, Z0m, Z0n, Z0j, Z0k, Z0r, Z0l, Z0p, Z0q, Z0o, Z21, Z20, Z22, Z23, Z3d, Z3e, Z3a, vIdx, Z4x, Z4w, Z4y, vApp, Z4u, Z3u, Z11, Z10, Z0z, Z0x, Z0w, Z0y, Z17, Z16, Z15, Z13, Z12, Z14, Z2c, Z2d, Z2a, Z2n, Z31, Z30, Z07, Z08, Z06, Z01, Z02, Z00, Z04, Z05, Z03, Z1z, Z1y, Z46, Z48, Z47, Z45, Z1n, Z1o, Z1m, Z3n, Z3k, Z3m, Z3l, Z3o, Z1l, Z29, Z32, Z3x, Z1i, Z1j, Z1k, Z3v, Z3w, Z1g, Z28, Z1h, Z3i, Z3f, Z3h, Z3g, Z3j, Z41, Z40, Z0t, Z0u, Z0v, Z0s, Z1f, Z4c, Z4b, Z4d, Z4a, Z49, ex, Z43, Z42, ev_t, ev_c, Z27, Z26, Z4e, Z4f, Z2m, Z2l, Z2f, Z2j, Z2k, Z2g, Z2h, Z2i, putc, exBslice, lfill, exField, exIdxV, exIdxP, exBox, exAlloc, Z3b, Z3c, exStore, exFieldA, Z34, Z33, Z39, Z38, exPick, exUn, exBeq, exMM, exSeq, seqGo, exExt, binV, intOp, subc, Z4s, Z4r, Z4p, Z4q, Z4n, Z4l, Z4m, Z4o, Z4i, Z4j, Z4g, Z4t, S0, encI, encB, Z4k, Z2e, Z25, Z4h, Z2b, Z24, Z36, Z37, Z35, Z3s, Z3t, Z3r, Z3p, Z3q, idxT_Bs, rfA, rcsA, rfG, rcsG, exLen_Bss, idx_Bss, hml, hkI, hgi, hkr, hgk, hlt, hrl, hkc, hko, c_rc_num, hok]
              rw [wrap_in _ (by omega)]
              refine ⟨hlt, (out ++ [out[k]], true), by rw [rcsI, hst, ← hx], Abs.of [(0, 0), (1, 31)] [] (by omega) ⟨by simp, by simp⟩ ?_ ?_⟩
              · simp [RenL_snoc, RenL.cl, RenV.cl, Z2r, Z2o, Z2s, Z2t, Z2p, Z2v, Z2u, Z2q, Z2w, Z2x, Z1d, Z1c, Z1b, Z19, Z18, Z1a, Z1e, Z52, Z4v, Z4z, Z3y, Z51, Z50, Z3z, Z1p, Z1q, Z1x, Z1v, Z1w, Z1u, Z1t, Z1s, Z1r, Z44, Z43, Z42, Z4e, Z4f, Z22, Z23, Z3d, Z3e, Z27, Z26, vV_t, vV_f, vB_t, vB_f, encI, encB, rcsG, closed_Det]
              · simp [RenL_snoc, RenL.cl, RenV.cl, Z2r, Z2o, Z2s, Z2t, Z2p, Z2v, Z2u, Z2q, Z2w, Z2x, Z1d, Z1c, Z1b, Z19, Z18, Z1a, Z1e, Z52, Z4v, Z4z, Z3y, Z51, Z50, Z3z, Z1p, Z1q, Z1x, Z1v, Z1w, Z1u, Z1t, Z1s, Z1r, Z44, Z43, Z42, Z4e, Z4f, Z22, Z23, Z3d, Z3e, Z27, Z26, vV_t, vV_f, vB_t, vB_f, encI, encB, rcsA, hst]
                exact .cl (closed_Bss _)
            · have hdk : decide (clsN c i ≠ clsN c k) = true := by simp [he]
              rw [hdk] at hgk
              simp [AWb_seq, Z0m, Z0n, Z0j, Z0k, Z0r, Z0l, Z0p, Z0q, Z0o, Z21, Z20, Z22, Z23, Z3d, Z3e, Z3a, vIdx, Z4x, Z4w, Z4y, vApp, Z4u, Z3u, Z11, Z10, Z0z, Z0x, Z0w, Z0y, Z17, Z16, Z15, Z13, Z12, Z14, Z2c, Z2d, Z2a, Z2n, Z31, Z30, Z07, Z08, Z06, Z01, Z02, Z00, Z04, Z05, Z03, Z1z, Z1y, Z46, Z48, Z47, Z45, Z1n, Z1o, Z1m, Z3n, Z3k, Z3m, Z3l, Z3o, Z1l, Z29, Z32, Z3x, Z1i, Z1j, Z1k, Z3v, Z3w, Z1g, Z28, Z1h, Z3i, Z3f, Z3h, Z3g, Z3j, Z41, Z40, Z0t, Z0u, Z0v, Z0s, Z1f, Z4c, Z4b, Z4d, Z4a, Z49, ex, Z43, Z42, ev_t, ev_c, Z27, Z26, Z4e, Z4f, Z2m, Z2l, Z2f, Z2j, Z2k, Z2g, Z2h, Z2i, putc, exBslice, lfill, exField, exIdxV, exIdxP, exBox, exAlloc, Z3b, Z3c, exStore, exFieldA, Z34, Z33, Z39, Z38, exPick, exUn, exBeq, exMM, exSeq, seqGo, exExt, binV, intOp, subc, Z4s, Z4r, Z4p, Z4q, Z4n, Z4l, Z4m, Z4o, Z4i, Z4j, Z4g, Z4t, S0, encI, encB, Z4k, Z2e, Z25, Z4h, Z2b, Z24, Z36, Z37, Z35, Z3s, Z3t, Z3r, Z3p, Z3q, idxT_Bs, rfA, rcsA, rfG, rcsG, exLen_Bss, idx_Bss, hml, hkI, hgi, hkr, hgk, hlt, hrl, hkc]
              rw [wrap_in _ (by omega)]
              refine ⟨hki, (), fun j hj => ?_, Abs.of [(0, 0), (1, 1)] [] (by omega) ⟨by simp, by simp⟩ ?_ ?_⟩
              · by_cases hjk : j = k
                · subst hjk; exact he
                · exact hq j (by omega)
              · simp [RenL_snoc, RenL.cl, RenV.cl, Z2r, Z2o, Z2s, Z2t, Z2p, Z2v, Z2u, Z2q, Z2w, Z2x, Z1d, Z1c, Z1b, Z19, Z18, Z1a, Z1e, Z52, Z4v, Z4z, Z3y, Z51, Z50, Z3z, Z1p, Z1q, Z1x, Z1v, Z1w, Z1u, Z1t, Z1s, Z1r, Z44, Z43, Z42, Z4e, Z4f, Z22, Z23, Z3d, Z3e, Z27, Z26, vV_t, vV_f, vB_t, vB_f, encI, encB, rfG, rcsG, closed_Det]
              · simp [RenL_snoc, RenL.cl, RenV.cl, Z2r, Z2o, Z2s, Z2t, Z2p, Z2v, Z2u, Z2q, Z2w, Z2x, Z1d, Z1c, Z1b, Z19, Z18, Z1a, Z1e, Z52, Z4v, Z4z, Z3y, Z51, Z50, Z3z, Z1p, Z1q, Z1x, Z1v, Z1w, Z1u, Z1t, Z1s, Z1r, Z44, Z43, Z42, Z4e, Z4f, Z22, Z23, Z3d, Z3e, Z27, Z26, vV_t, vV_f, vB_t, vB_f, encI, encB, rfA, rcsA]
                exact .cl (closed_Bss _)
          · have hke : k = i := by omega
            subst hke
            have hnin : c[k] ∉ (numF1 (c.take k)).1 := by
              rw [ok.mem, ← hci]
              intro hm
              obtain ⟨j, hj, hj2⟩ := List.mem_iff_getElem.mp hm
              simp only [List.length_take] at hj
              rw [List.getElem_take] at hj2
              refine hq j (by omega) ?_
              rw [← hj2, clsN, List.getD_eq_getElem?_getD, List.getElem?_eq_getElem (by omega)]; rfl
            have hns : numStep (numF1 (c.take k)) c[k] = ((numF1 (c.take k)).1 ++ [c[k]], (numF1 (c.take k)).2 ++ [((numF1 (c.take k)).1.length : Int)]) := by
              rw [numStep, if_neg (by simpa using hnin)]
            rw [hns] at hst
            simp [AWb_seq, Z0m, Z0n, Z0j, Z0k, Z0r, Z0l, Z0p, Z0q, Z0o, Z21, Z20, Z22, Z23, Z3d, Z3e, Z3a, vIdx, Z4x, Z4w, Z4y, vApp, Z4u, Z3u, Z11, Z10, Z0z, Z0x, Z0w, Z0y, Z17, Z16, Z15, Z13, Z12, Z14, Z2c, Z2d, Z2a, Z2n, Z31, Z30, Z07, Z08, Z06, Z01, Z02, Z00, Z04, Z05, Z03, Z1z, Z1y, Z46, Z48, Z47, Z45, Z1n, Z1o, Z1m, Z3n, Z3k, Z3m, Z3l, Z3o, Z1l, Z29, Z32, Z3x, Z1i, Z1j, Z1k, Z3v, Z3w, Z1g, Z28, Z1h, Z3i, Z3f, Z3h, Z3g, Z3j, Z41, Z40, Z0t, Z0u, Z0v, Z0s, Z1f, Z4c, Z4b, Z4d, Z4a, Z49, ex, Z43, Z42, ev_t, ev_c, Z27, Z26, Z4e, Z4f, Z2m, Z2l, Z2f, Z2j, Z2k, Z2g, Z2h, Z2i, putc, exBslice, lfill, exField, exIdxV, exIdxP, exBox, exAlloc, Z3b, Z3c, exStore, exFieldA, Z34, Z33, Z39, Z38, exPick, exUn, exBeq, exMM, exSeq, seqGo, exExt, binV, intOp, subc, Z4s, Z4r, Z4p, Z4q, Z4n, Z4l, Z4m, Z4o, Z4i, Z4j, Z4g, Z4t, S0, encI, encB, Z4k, Z2e, Z25, Z4h, Z2b, Z24, Z36, Z37, Z35, Z3s, Z3t, Z3r, Z3p, Z3q, idxT_Bs, rfA, rcsA, rfG, rcsG, exLen_Bss, idx_Bss, hml, c_rc_num, hok]
            rw [wrap_in (k + 1 : Int) (by omega), wrap_in _ (by omega)]
            refine ⟨hlt, (out ++ [((numF1 (c.take k)).1.length : Int)], true), by rw [rcsI, hst, ← hx], Abs.of [(0, 0), (1, 28)] [] (by omega) ⟨by simp, by simp⟩ ?_ ?_⟩
            · simp [RenL_snoc, RenL.cl, RenV.cl, Z2r, Z2o, Z2s, Z2t, Z2p, Z2v, Z2u, Z2q, Z2w, Z2x, Z1d, Z1c, Z1b, Z19, Z18, Z1a, Z1e, Z52, Z4v, Z4z, Z3y, Z51, Z50, Z3z, Z1p, Z1q, Z1x, Z1v, Z1w, Z1u, Z1t, Z1s, Z1r, Z44, Z43, Z42, Z4e, Z4f, Z22, Z23, Z3d, Z3e, Z27, Z26, vV_t, vV_f, vB_t, vB_f, encI, encB, rcsG, closed_Det]
            · simp [RenL_snoc, RenL.cl, RenV.cl, Z2r, Z2o, Z2s, Z2t, Z2p, Z2v, Z2u, Z2q, Z2w, Z2x, Z1d, Z1c, Z1b, Z19, Z18, Z1a, Z1e, Z52, Z4v, Z4z, Z3y, Z51, Z50, Z3z, Z1p, Z1q, Z1x, Z1v, Z1w, Z1u, Z1t, Z1s, Z1r, Z44, Z43, Z42, Z4e, Z4f, Z22, Z23, Z3d, Z3e, Z27, Z26, vV_t, vV_f, vB_t, vB_f, encI, encB, rcsA, hst]
              exact .cl (closed_Bss _)
      · have hie : i = c.length := by omega
        have hout : out = c := by rw [hx, hie, List.take_length]; exact hnum
        have hiI : ¬ (i : Int) < c.length := by omega
        simp [AWb_seq, Z0m, Z0n, Z0j, Z0k, Z0r, Z0l, Z0p, Z0q, Z0o, Z21, Z20, Z22, Z23, Z3d, Z3e, Z3a, vIdx, Z4x, Z4w, Z4y, vApp, Z4u, Z3u, Z11, Z10, Z0z, Z0x, Z0w, Z0y, Z17, Z16, Z15, Z13, Z12, Z14, Z2c, Z2d, Z2a, Z2n, Z31, Z30, Z07, Z08, Z06, Z01, Z02, Z00, Z04, Z05, Z03, Z1z, Z1y, Z46, Z48, Z47, Z45, Z1n, Z1o, Z1m, Z3n, Z3k, Z3m, Z3l, Z3o, Z1l, Z29, Z32, Z3x, Z1i, Z1j, Z1k, Z3v, Z3w, Z1g, Z28, Z1h, Z3i, Z3f, Z3h, Z3g, Z3j, Z41, Z40, Z0t, Z0u, Z0v, Z0s, Z1f, Z4c, Z4b, Z4d, Z4a, Z49, ex, Z43, Z42, ev_t, ev_c, Z27, Z26, Z4e, Z4f, Z2m, Z2l, Z2f, Z2j, Z2k, Z2g, Z2h, Z2i, putc, exBslice, lfill, exField, exIdxV, exIdxP, exBox, exAlloc, Z3b, Z3c, exStore, exFieldA, Z34, Z33, Z39, Z38, exPick, exUn, exBeq, exMM, exSeq, seqGo, exExt, binV, intOp, subc, Z4s, Z4r, Z4p, Z4q, Z4n, Z4l, Z4m, Z4o, Z4i, Z4j, Z4g, Z4t, S0, encI, encB, Z4k, Z2e, Z25, Z4h, Z2b, Z24, Z36, Z37, Z35, Z3s, Z3t, Z3r, Z3p, Z3q, idxT_Bs, rcsA, rcsG, exLen_Bss, hml, hiI]
        rw [← hout]
        refine vV_fz ?_ (Z19 _)
        simp [RenL_snoc, RenL.cl, RenV.cl, Z2r, Z2o, Z2s, Z2t, Z2p, Z2v, Z2u, Z2q, Z2w, Z2x, Z1d, Z1c, Z1b, Z19, Z18, Z1a, Z1e, Z52, Z4v, Z4z, Z3y, Z51, Z50, Z3z, Z1p, Z1q, Z1x, Z1v, Z1w, Z1u, Z1t, Z1s, Z1r, Z44, Z43, Z42, Z4e, Z4f, Z22, Z23, Z3d, Z3e, Z27, Z26, vV_t, vV_f, vB_t, vB_f, encI, encB]
end Go.Rf

