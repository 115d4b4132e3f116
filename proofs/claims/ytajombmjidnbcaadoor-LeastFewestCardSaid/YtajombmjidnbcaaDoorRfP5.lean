import Derived.Test.YtajombmjidnbcaaDoorRfP4
import Derived.Test.YtajombmjidnbcaaDoorRfQ4
/- Own work: which states are told apart (the document's rows, written in their own places). -/
set_option linter.unusedVariables false
set_option linter.unusedSimpArgs false
namespace Go.Rf
open Go.RowKit
def c_ap_s : AC :=
  (.block 10 (.loop (.seq (.seq (.reg none [
              ⟨(some 59), .mv (.t 10), none, none⟩,
              ⟨(some 60), .fieldA 0 (.t 1), none, none⟩,
              ⟨(some 61), .load none (.t 60), none, none⟩,
              ⟨(some 62), .bin .lss (.t 59) (.t 61), none, none⟩,
              ⟨(some 63), .mv (.t 62), none, none⟩,
              ⟨(some 64), .mv (.t 4), (some (63, true)), none⟩,
              ⟨(some 65), .mv (.t 8), (some (63, true)), none⟩,
              ⟨(some 66), .idxA 1 (.t 64) (.t 65), (some (63, true)), none⟩,
              ⟨(some 67), .load none (.t 66), (some (63, true)), none⟩,
              ⟨(some 68), .mv (.t 9), (some (63, true)), none⟩,
              ⟨(some 69), .idxA 1 (.t 67) (.t 68), (some (63, true)), none⟩,
              ⟨(some 70), .load none (.t 69), (some (63, true)), none⟩,
              ⟨(some 71), .un .not (.t 70), (some (63, true)), none⟩,
              ⟨(some 72), .pick (.t 63) (.t 71) (.c (.v (.bool false))), none, none⟩])
             (.cond (.t 72) .skip (.exit 10)))
             (.seq (.block 11 (.seq (.reg (some []) [
               ⟨(some 75), .mv (.t 4), none, none⟩,
               ⟨(some 76), .fieldA 1 (.t 1), none, none⟩,
               ⟨(some 77), .load none (.t 76), none, none⟩,
               ⟨(some 78), .mv (.t 8), none, none⟩,
               ⟨(some 79), .idxA 1 (.t 77) (.t 78), none, none⟩,
               ⟨(some 80), .load none (.t 79), none, none⟩,
               ⟨(some 81), .mv (.t 10), none, none⟩,
               ⟨(some 82), .idxA 1 (.t 80) (.t 81), none, none⟩,
               ⟨(some 83), .load none (.t 82), none, none⟩,
               ⟨(some 84), .idxA 1 (.t 75) (.t 83), none, none⟩,
               ⟨(some 85), .load none (.t 84), none, none⟩,
               ⟨(some 86), .fieldA 1 (.t 1), none, none⟩,
               ⟨(some 87), .load none (.t 86), none, none⟩,
               ⟨(some 88), .mv (.t 9), none, none⟩,
               ⟨(some 89), .idxA 1 (.t 87) (.t 88), none, none⟩,
               ⟨(some 90), .load none (.t 89), none, none⟩,
               ⟨(some 91), .mv (.t 10), none, none⟩,
               ⟨(some 92), .idxA 1 (.t 90) (.t 91), none, none⟩,
               ⟨(some 93), .load none (.t 92), none, none⟩,
               ⟨(some 94), .idxA 1 (.t 85) (.t 93), none, none⟩,
               ⟨(some 95), .load none (.t 94), none, none⟩])
              (.cond (.t 95) (.seq (.reg (some [[], [], [], [], [], [], [], [], [], [], [], [false, true]]) [
                ⟨(some 96), .mv (.t 4), none, none⟩,
                ⟨(some 97), .mv (.t 8), none, none⟩,
                ⟨(some 98), .idxA 1 (.t 96) (.t 97), none, none⟩,
                ⟨(some 99), .load none (.t 98), none, none⟩,
                ⟨(some 100), .mv (.t 9), none, none⟩,
                ⟨(some 101), .mv (.t 4), none, none⟩,
                ⟨(some 102), .mv (.t 9), none, none⟩,
                ⟨(some 103), .idxA 1 (.t 101) (.t 102), none, none⟩,
                ⟨(some 104), .load none (.t 103), none, none⟩,
                ⟨(some 105), .mv (.t 8), none, none⟩,
                ⟨(some 106), .idxA 1 (.t 99) (.t 100), none, none⟩,
                ⟨none, .store 1 (.t 106) (.c (.v (.bool true))), none, none⟩,
                ⟨(some 107), .idxA 1 (.t 104) (.t 105), none, none⟩,
                ⟨none, .store 1 (.t 107) (.c (.v (.bool true))), none, none⟩])
               (.reg none [
                ⟨(some 7), .mv (.c (.v (.bool true))), none, none⟩])) .skip)))
             (.reg none [
              ⟨(some 73), .mv (.t 10), none, none⟩,
              ⟨(some 74), .bin .add (.t 73) (.c (.v (.int .i64 1))), none, none⟩,
              ⟨(some 10), .mv (.t 74), none, none⟩])))))
def c_ap_k : AC :=
  (.block 8 (.loop (.seq (.seq (.reg none [
           ⟨(some 54), .mv (.t 9), none, none⟩,
           ⟨(some 55), .mv (.t 8), none, none⟩,
           ⟨(some 56), .bin .lss (.t 54) (.t 55), none, none⟩])
          (.cond (.t 56) .skip (.exit 8)))
          (.seq (.block 9 (.seq (.reg none [
            ⟨(some 10), .mv (.c (.v (.int .i64 0))), none, none⟩])
           c_ap_s))
          (.reg none [
           ⟨(some 57), .mv (.t 9), none, none⟩,
           ⟨(some 58), .bin .add (.t 57) (.c (.v (.int .i64 1))), none, none⟩,
           ⟨(some 9), .mv (.t 58), none, none⟩])))))
def c_ap_i : AC :=
  (.block 6 (.loop (.seq (.seq (.reg none [
        ⟨(some 49), .mv (.t 8), none, none⟩,
        ⟨(some 50), .mv (.t 3), none, none⟩,
        ⟨(some 51), .bin .lss (.t 49) (.t 50), none, none⟩])
       (.cond (.t 51) .skip (.exit 6)))
       (.seq (.block 7 (.seq (.reg none [
         ⟨(some 9), .mv (.c (.v (.int .i64 0))), none, none⟩])
        c_ap_k))
       (.reg none [
        ⟨(some 52), .mv (.t 8), none, none⟩,
        ⟨(some 53), .bin .add (.t 52) (.c (.v (.int .i64 1))), none, none⟩,
        ⟨(some 8), .mv (.t 53), none, none⟩])))))
def c_ap_w : AC :=
  (.block 4 (.loop (.seq (.seq (.reg none [
     ⟨(some 48), .mv (.t 7), none, none⟩])
    (.cond (.t 48) .skip (.exit 4)))
    (.block 5 (.seq (.reg none [
      ⟨(some 7), .mv (.c (.v (.bool false))), none, none⟩])
     (.seq (.reg none [
      ⟨(some 8), .mv (.c (.v (.int .i64 0))), none, none⟩])
     c_ap_i))))))
def c_ap_f : AC :=
  (.block 2 (.loop (.seq (.seq (.reg none [
        ⟨(some 26), .mv (.t 6), none, none⟩,
        ⟨(some 27), .mv (.t 3), none, none⟩,
        ⟨(some 28), .bin .lss (.t 26) (.t 27), none, none⟩])
       (.cond (.t 28) .skip (.exit 2)))
       (.seq (.block 3 (.reg (some []) [
         ⟨(some 31), .mv (.t 4), none, none⟩,
         ⟨(some 32), .mv (.t 5), none, none⟩,
         ⟨(some 33), .idxA 1 (.t 31) (.t 32), none, none⟩,
         ⟨(some 34), .load none (.t 33), none, none⟩,
         ⟨(some 35), .mv (.t 6), none, none⟩,
         ⟨(some 36), .fieldA 2 (.t 1), none, none⟩,
         ⟨(some 37), .load none (.t 36), none, none⟩,
         ⟨(some 38), .mv (.t 5), none, none⟩,
         ⟨(some 39), .idxA 1 (.t 37) (.t 38), none, none⟩,
         ⟨(some 40), .load none (.t 39), none, none⟩,
         ⟨(some 41), .fieldA 2 (.t 1), none, none⟩,
         ⟨(some 42), .load none (.t 41), none, none⟩,
         ⟨(some 43), .mv (.t 6), none, none⟩,
         ⟨(some 44), .idxA 1 (.t 42) (.t 43), none, none⟩,
         ⟨(some 45), .load none (.t 44), none, none⟩,
         ⟨(some 46), .beq true (.t 40) (.t 45), none, none⟩,
         ⟨(some 47), .idxA 1 (.t 34) (.t 35), none, none⟩,
         ⟨none, .store 1 (.t 47) (.t 46), none, none⟩]))
       (.reg none [
        ⟨(some 29), .mv (.t 6), none, none⟩,
        ⟨(some 30), .bin .add (.t 29) (.c (.v (.int .i64 1))), none, none⟩,
        ⟨(some 6), .mv (.t 30), none, none⟩])))))
def c_ap_o : AC :=
  (.block 0 (.loop (.seq (.seq (.reg none [
     ⟨(some 16), .mv (.t 5), none, none⟩,
     ⟨(some 17), .mv (.t 3), none, none⟩,
     ⟨(some 18), .bin .lss (.t 16) (.t 17), none, none⟩])
    (.cond (.t 18) .skip (.exit 0)))
    (.seq (.block 1 (.seq (.reg none [
      ⟨(some 21), .mv (.t 4), none, none⟩,
      ⟨(some 22), .mv (.t 5), none, none⟩,
      ⟨(some 23), .mv (.t 3), none, none⟩,
      ⟨(some 24), .mks 1 1 (.v (.bool false)) (.t 23) (.t 23), none, none⟩,
      ⟨(some 25), .idxA 1 (.t 21) (.t 22), none, none⟩,
      ⟨none, .store 1 (.t 25) (.t 24), none, none⟩])
     (.seq (.reg none [
      ⟨(some 6), .mv (.c (.v (.int .i64 0))), none, none⟩])
     c_ap_f)))
    (.reg none [
     ⟨(some 19), .mv (.t 5), none, none⟩,
     ⟨(some 20), .bin .add (.t 19) (.c (.v (.int .i64 1))), none, none⟩,
     ⟨(some 5), .mv (.t 20), none, none⟩])))))
def c_ap_rest : AC :=
  (.seq (.seq (.reg none [
   ⟨(some 7), .mv (.c (.v (.bool true))), none, none⟩])
  c_ap_w)
  (.seq (.reg none [
   ⟨(some 108), .mv (.t 4), none, none⟩,
   ⟨(some 2), .mv (.t 108), none, none⟩])
  .ret))
def c_caesuraref17_apart : AC :=
  (.seq (.reg none [
   ⟨(some 1), .box 3 (.t 0), none, none⟩,
   ⟨(some 2), .mv (.c (.sl true [])), none, none⟩])
  (.seq (.reg none [
   ⟨(some 11), .fieldA 1 (.t 1), none, none⟩,
   ⟨(some 12), .load none (.t 11), none, none⟩,
   ⟨(some 13), .len (.t 12), none, none⟩,
   ⟨(some 3), .mv (.t 13), none, none⟩])
  (.seq (.reg none [
   ⟨(some 14), .mv (.t 3), none, none⟩,
   ⟨(some 15), .mks 1 24 (.sl true []) (.t 14) (.t 14), none, none⟩,
   ⟨(some 4), .mv (.t 15), none, none⟩])
  (.seq (.seq (.reg none [
   ⟨(some 5), .mv (.c (.v (.int .i64 0))), none, none⟩])
  c_ap_o)
  c_ap_rest))))
def rowL (M : Mx) (n i : Nat) : List Bool := (List.range n).map (M i)
theorem rowL_len (M : Mx) (n i : Nat) : (rowL M n i).length = n := by simp [rowL]
theorem rowL_at (M : Mx) (n i k : Nat) (h : k < (rowL M n i).length) : (rowL M n i)[k] = M i k := by simp [rowL]
def ptrsL (n m : Nat) : List AV := (List.range n).map fun j => if j < m then .own (11 + j) 0 n else .sl true []
theorem ptrsL_len (n m : Nat) : (ptrsL n m).length = n := by simp [ptrsL]
theorem ptrsL_g {n j : Nat} (h : j < (ptrsL n n).length) : (ptrsL n n)[j] = .own (11 + j) 0 n := by
  have hn : j < n := by rw [ptrsL_len] at h; exact h
  simp [ptrsL, hn]
theorem ptrsL_g2 {n i : Nat} (h : i < (ptrsL n i).length) : (ptrsL n i)[i] = .sl true [] := by simp [ptrsL]
def rowsG (M : Mx) (n m : Nat) : List (Nat × Option Blk) := (List.range m).map fun i => (11 + i, some (.arr 1 ((rowL M n i).map encB)))
def apG (d : Det) (n m : Nat) (M : Mx) : List (Nat × Option Blk) := (0, some (.arr 3 [encDet d])) :: (10, some (.arr 1 (ptrsL n m))) :: rowsG M n m
theorem gOf_rows (F : Nat → Option Blk) (a : Nat) : ∀ (m j : Nat), j < m → gOf ((List.range' a m).map fun i => (11 + i, F i)) (11 + (a + j)) = F (a + j) := by
  intro m
  induction m generalizing a with
  | zero => intro j hj; omega
  | succ m ih =>
    intro j hj
    rw [List.range'_succ, List.map_cons, Z3d]
    by_cases h : j = 0
    · subst h; rw [if_pos (by omega)]; rfl
    · rw [if_neg (by omega)]
      have := ih (a + 1) (j - 1) (by omega)
      have e : a + 1 + (j - 1) = a + j := by omega
      rw [e] at this; exact this
theorem gOf_rowsG {M : Mx} {n m j : Nat} (h : j < m) : gOf (rowsG M n m) (11 + j) = some (.arr 1 ((rowL M n j).map encB)) := by
  have := gOf_rows (fun i => some (.arr 1 ((rowL M n i).map encB))) 0 m j h
  rw [Nat.zero_add, ← List.range_eq_range'] at this
  exact this
theorem apG_0 (d : Det) (n m : Nat) (M : Mx) : gOf (apG d n m M) 0 = some (.arr 3 [encDet d]) := by simp [apG, Z3d]
theorem apG_10 (d : Det) (n m : Nat) (M : Mx) : gOf (apG d n m M) 10 = some (.arr 1 (ptrsL n m)) := by simp [apG, Z3d]
theorem apG_r (d : Det) {n m j : Nat} (M : Mx) (h : j < m) : gOf (apG d n m M) (11 + j) = some (.arr 1 ((rowL M n j).map encB)) := by
  unfold apG
  rw [Z3d, if_neg (by omega), Z3d, if_neg (by omega)]
  exact gOf_rowsG h
def idO (m : Nat) : List (Nat × Nat) := (0, 0) :: (10, 10) :: (List.range m).map fun j => (11 + j, 11 + j)
theorem idO_ok {m : Nat} (h : m ≤ 3000) : OOk (idO m) [] 0 4000 := by
  constructor
  · intro p hp
    simp only [idO, List.mem_cons, List.mem_map, List.mem_range] at hp
    rcases hp with rfl | rfl | ⟨j, hj, rfl⟩
    · simp
    · simp
    · simp; omega
  · rw [idO, List.pairwise_cons, List.pairwise_cons]
    refine ⟨fun p hp => ?_, fun p hp => ?_, ?_⟩
    · simp only [List.mem_cons, List.mem_map, List.mem_range] at hp
      rcases hp with rfl | ⟨j, hj, rfl⟩ <;> simp <;> omega
    · simp only [List.mem_map, List.mem_range] at hp
      obtain ⟨j, hj, rfl⟩ := hp
      simp; omega
    · rw [List.pairwise_map]
      exact List.pairwise_lt_range.imp fun h => by simp; omega
theorem idO_r {m j : Nat} (h : j < m) : relO (idO m) 0 (11 + j) (11 + j) := .inl (by simp [idO, h])
theorem ren_ptrs {gF : Nat → Option Blk} {R : Nat → Nat → Prop} {n m : Nat} (h : ∀ j, j < m → R (11 + j) (11 + j)) : RenL gF R (ptrsL n m) (ptrsL n m) := by
  refine ⟨rfl, fun i h1 _ => ?_⟩
  simp only [ptrsL, List.getElem_map, List.getElem_range]
  split
  · rename_i hj; exact .own _ _ _ _ (h _ hj)
  · exact .cl (Z2w _)
/-- Told anew, nothing moved. -/
theorem absGrid {a : AF} {S : St} {d : Det} {n m : Nat} {M : Mx} {A : List (Nat × AV)} (hm : m ≤ 3000) (h0 : S.g 0 = some (.arr 3 [encDet d])) (h10 : S.g 10 = some (.arr 1 (ptrsL n m)))
    (hr : ∀ j, j < m → S.g (11 + j) = some (.arr 1 ((rowL M n j).map encB))) (hA : ∀ p ∈ A, RenV (only [] S.g) (relO (idO m) 0) (a p.1) p.2) : Abs 0 a S (afOf A) ⟨4000, gOf (apG d n m M)⟩ := by
  refine Abs.of (idO m) [] (by omega) (idO_ok hm) (fun p hp => .inr ?_) hA
  simp only [apG, rowsG, List.mem_cons, List.mem_map, List.mem_range] at hp
  rcases hp with rfl | rfl | ⟨j, hj, rfl⟩
  · refine ⟨0, by simp [idO], ?_⟩
    rw [h0, Z1r]
    exact ⟨rfl, RenL.cl (by intro y hy; simp at hy; subst hy; exact closed_Det d)⟩
  · refine ⟨10, by simp [idO], ?_⟩
    rw [h10, Z1r]
    exact ⟨rfl, ren_ptrs fun j hj => idO_r hj⟩
  · refine ⟨11 + j, by simp [idO, hj], ?_⟩
    rw [hr j hj, Z1r]
    exact ⟨rfl, RenL.cl (Z18 _)⟩
def apA (n : Nat) : List (Nat × AV) := [(1, .ptr 0 0 0), (3, encI n), (4, .own 10 0 n)]
theorem row_upd {M : Mx} {n i k j : Nat} (hik : i ≠ k) (hi : i < n) (hk : k < n) : rowL (upd2 M i k) n j = if j = k then (rowL M n k).set i true else if j = i then (rowL M n i).set k true else rowL M n j := by
  apply List.ext_getElem
  · split
    · simp [rowL]
    · split <;> simp [rowL]
  · intro x h1 h2
    rw [rowL_len] at h1
    rw [rowL_at _ _ _ _ (by rw [rowL_len]; exact h1)]
    by_cases hjk : j = k
    · subst hjk
      simp only [if_true]
      rw [List.getElem_set]
      split
      · rename_i e; subst e; simp [upd2]
      · rename_i e
        rw [rowL_at]
        have : ¬ ((j = i ∧ x = j) ∨ (j = j ∧ x = i)) := by omega
        simp [upd2, this]
        intro h; omega
    · simp only [hjk, if_false]
      by_cases hji : j = i
      · subst hji
        simp only [if_true]
        rw [List.getElem_set]
        split
        · rename_i e; subst e; simp [upd2]
        · rename_i e
          rw [rowL_at]
          simp only [upd2]
          rw [if_neg (by omega)]
      · simp only [hji, if_false]
        rw [rowL_at]
        simp only [upd2]
        rw [if_neg (by omega)]
/-! ### the rounds -/
abbrev MS := Mx × Bool
/-- What a round has done. -/
structure Rnd (d : Det) (M0 : Mx) (s : MS) : Prop where
  ok : MOk d s.1
  no : s.2 = false → s.1 = M0
  lt : s.2 = true → fcnt d.next.length s.1 < fcnt d.next.length M0
def wI (d : Det) (m : Nat) (s : MS) : Prop := MOk d s.1 ∧ m = 2 * fcnt d.next.length s.1 + (if s.2 = true then 1 else 0) ∧ (s.2 = false → ∀ i k, i < d.next.length → k < i → Clp d s.1 i k)
def wA (n : Nat) (s : MS) : List (Nat × AV) := (7, encB s.2) :: apA n
def wG (d : Det) (s : MS) : List (Nat × Option Blk) := apG d d.next.length d.next.length s.1
def iI (d : Det) (M0 : Mx) (i : Nat) (s : MS) : Prop := Rnd d M0 s ∧ (s.2 = false → ∀ i' k', i' < i → k' < i' → Clp d M0 i' k')
def iA (n : Nat) (i : Nat) (s : MS) : List (Nat × AV) := (8, encI i) :: wA n s
def iG (d : Det) (_ : Nat) (s : MS) : List (Nat × Option Blk) := wG d s
def kI (d : Det) (M0 : Mx) (i : Nat) (k : Nat) (s : MS) : Prop := iI d M0 i s ∧ (s.2 = false → ∀ k', k' < k → Clp d M0 i k')
def kA (n i : Nat) (k : Nat) (s : MS) : List (Nat × AV) := (9, encI k) :: iA n i s
def sI (d : Det) (M0 : Mx) (i k : Nat) (j : Nat) (s : MS) : Prop := kI d M0 i k s ∧ (s.2 = false → ∀ t : Nat, t < j → M0 (stepD d i t) (stepD d k t) = false)
def sA (n i k : Nat) (j : Nat) (s : MS) : List (Nat × AV) := (10, encI j) :: kA n i k s
theorem rows_ok {P : Program} {d : Det} (R : RightD d) {M0 : Mx} (h0 : MOk d M0) {a : AF} {S : St} {Q : Exit → AF → St → Prop} (hS : Abs 0 a S (afOf (wA d.next.length (M0, true))) ⟨4000, gOf (wG d (M0, true))⟩)
    (hQ : ∀ M a S, MOk d M → (∀ i k, i < d.next.length → k < i → Clp d M i k) → a 4 = .own 10 0 d.next.length → S.g = gOf (apG d d.next.length d.next.length M) → Q .normal a S) : AWb P 0 c_ap_w Q a S := by
  have hn2 := R.n2
  have hs1 := R.s1
  have hs2 := R.s2
  have ed : (encDet d).cells = [encI d.signs, encIss d.next, encBs d.fin] := rfl
  have hpl := ptrsL_len d.next.length d.next.length
  simp [AWb_seq, Z0m, Z0n, Z0j, Z0k, Z0r, Z0l, Z0p, Z0q, Z0o, Z21, Z20, Z22, Z23, Z3d, Z3e, Z3a, vIdx, Z4x, Z4w, Z4y, vApp, Z4u, Z3u, Z11, Z10, Z0z, Z0x, Z0w, Z0y, Z17, Z16, Z15, Z13, Z12, Z14, Z2c, Z2d, Z2a, Z2n, Z31, Z30, Z07, Z08, Z06, Z01, Z02, Z00, Z04, Z05, Z03, Z1z, Z1y, Z46, Z48, Z47, Z45, Z1n, Z1o, Z1m, Z3n, Z3k, Z3m, Z3l, Z3o, Z1l, Z29, Z32, Z3x, Z1i, Z1j, Z1k, Z3v, Z3w, Z1g, Z28, Z1h, Z3i, Z3f, Z3h, Z3g, Z3j, Z41, Z40, Z0t, Z0u, Z0v, Z0s, Z1f, Z4c, Z4b, Z4d, Z4a, Z49, ex, Z43, Z42, ev_t, ev_c, Z27, Z26, Z4e, Z4f, Z2m, Z2l, Z2f, Z2j, Z2k, Z2g, Z2h, Z2i, putc, exBslice, lfill, exField, exIdxV, exIdxP, exBox, exAlloc, Z3b, Z3c, exStore, exFieldA, Z34, Z33, Z39, Z38, exPick, exUn, exBeq, exMM, exSeq, seqGo, exExt, binV, intOp, subc, Z4s, Z4r, Z4p, Z4q, Z4n, Z4l, Z4m, Z4o, Z4i, Z4j, Z4g, Z4t, S0, encI, encB, Z4k, Z2e, Z25, Z4h, Z2b, Z24, Z36, Z37, Z35, Z3s, Z3t, Z3r, Z3p, Z3q, idxT_Bs, c_ap_w]
  refine AWb_while (wI d) (wA d.next.length) 4000 (wG d) _ (M0, true) ⟨h0, rfl, by simp⟩ hS ?_
  rintro m ⟨M, more⟩ ⟨hM, hm, hcl⟩
  simp only at hM hm hcl
  cases more with
  | false =>
    simp [AWb_seq, Z0m, Z0n, Z0j, Z0k, Z0r, Z0l, Z0p, Z0q, Z0o, Z21, Z20, Z22, Z23, Z3d, Z3e, Z3a, vIdx, Z4x, Z4w, Z4y, vApp, Z4u, Z3u, Z11, Z10, Z0z, Z0x, Z0w, Z0y, Z17, Z16, Z15, Z13, Z12, Z14, Z2c, Z2d, Z2a, Z2n, Z31, Z30, Z07, Z08, Z06, Z01, Z02, Z00, Z04, Z05, Z03, Z1z, Z1y, Z46, Z48, Z47, Z45, Z1n, Z1o, Z1m, Z3n, Z3k, Z3m, Z3l, Z3o, Z1l, Z29, Z32, Z3x, Z1i, Z1j, Z1k, Z3v, Z3w, Z1g, Z28, Z1h, Z3i, Z3f, Z3h, Z3g, Z3j, Z41, Z40, Z0t, Z0u, Z0v, Z0s, Z1f, Z4c, Z4b, Z4d, Z4a, Z49, ex, Z43, Z42, ev_t, ev_c, Z27, Z26, Z4e, Z4f, Z2m, Z2l, Z2f, Z2j, Z2k, Z2g, Z2h, Z2i, putc, exBslice, lfill, exField, exIdxV, exIdxP, exBox, exAlloc, Z3b, Z3c, exStore, exFieldA, Z34, Z33, Z39, Z38, exPick, exUn, exBeq, exMM, exSeq, seqGo, exExt, binV, intOp, subc, Z4s, Z4r, Z4p, Z4q, Z4n, Z4l, Z4m, Z4o, Z4i, Z4j, Z4g, Z4t, S0, encI, encB, Z4k, Z2e, Z25, Z4h, Z2b, Z24, Z36, Z37, Z35, Z3s, Z3t, Z3r, Z3p, Z3q, idxT_Bs, wA, wG, apA]
    exact hQ M _ _ hM (hcl rfl) (by simp [Z43, Z22]) rfl
  | true =>
    simp [AWb_seq, Z0m, Z0n, Z0j, Z0k, Z0r, Z0l, Z0p, Z0q, Z0o, Z21, Z20, Z22, Z23, Z3d, Z3e, Z3a, vIdx, Z4x, Z4w, Z4y, vApp, Z4u, Z3u, Z11, Z10, Z0z, Z0x, Z0w, Z0y, Z17, Z16, Z15, Z13, Z12, Z14, Z2c, Z2d, Z2a, Z2n, Z31, Z30, Z07, Z08, Z06, Z01, Z02, Z00, Z04, Z05, Z03, Z1z, Z1y, Z46, Z48, Z47, Z45, Z1n, Z1o, Z1m, Z3n, Z3k, Z3m, Z3l, Z3o, Z1l, Z29, Z32, Z3x, Z1i, Z1j, Z1k, Z3v, Z3w, Z1g, Z28, Z1h, Z3i, Z3f, Z3h, Z3g, Z3j, Z41, Z40, Z0t, Z0u, Z0v, Z0s, Z1f, Z4c, Z4b, Z4d, Z4a, Z49, ex, Z43, Z42, ev_t, ev_c, Z27, Z26, Z4e, Z4f, Z2m, Z2l, Z2f, Z2j, Z2k, Z2g, Z2h, Z2i, putc, exBslice, lfill, exField, exIdxV, exIdxP, exBox, exAlloc, Z3b, Z3c, exStore, exFieldA, Z34, Z33, Z39, Z38, exPick, exUn, exBeq, exMM, exSeq, seqGo, exExt, binV, intOp, subc, Z4s, Z4r, Z4p, Z4q, Z4n, Z4l, Z4m, Z4o, Z4i, Z4j, Z4g, Z4t, S0, encI, encB, Z4k, Z2e, Z25, Z4h, Z2b, Z24, Z36, Z37, Z35, Z3s, Z3t, Z3r, Z3p, Z3q, idxT_Bs, wA, wG, apA, c_ap_i]
    refine AWb_for d.next.length (iI d M) (iA d.next.length) 4000 (iG d) (M, false) ⟨⟨hM, fun _ => rfl, by simp⟩, fun _ i' k' h => by omega⟩ ?_ ?_
    · refine absGrid (n := d.next.length) (m := d.next.length) (M := M) (by omega) (apG_0 d d.next.length d.next.length M) (apG_10 d d.next.length d.next.length M) (fun j hj => apG_r d M hj) ?_
      simp only [iA, wA, apA]
      simp [RenL_snoc, RenL.cl, RenV.cl, Z2r, Z2o, Z2s, Z2t, Z2p, Z2v, Z2u, Z2q, Z2w, Z2x, Z1d, Z1c, Z1b, Z19, Z18, Z1a, Z1e, Z52, Z4v, Z4z, Z3y, Z51, Z50, Z3z, Z1p, Z1q, Z1x, Z1v, Z1w, Z1u, Z1t, Z1s, Z1r, Z44, Z43, Z42, Z4e, Z4f, Z22, Z23, Z3d, Z3e, Z27, Z26, vV_t, vV_f, vB_t, vB_f, encI, encB]
      exact ⟨by simp [idO], by simp [idO]⟩
    · rintro i ⟨M1, mo⟩ hi ⟨hR, hCl⟩
      simp only at hCl
      by_cases hin : i < d.next.length
      · simp [AWb_seq, Z0m, Z0n, Z0j, Z0k, Z0r, Z0l, Z0p, Z0q, Z0o, Z21, Z20, Z22, Z23, Z3d, Z3e, Z3a, vIdx, Z4x, Z4w, Z4y, vApp, Z4u, Z3u, Z11, Z10, Z0z, Z0x, Z0w, Z0y, Z17, Z16, Z15, Z13, Z12, Z14, Z2c, Z2d, Z2a, Z2n, Z31, Z30, Z07, Z08, Z06, Z01, Z02, Z00, Z04, Z05, Z03, Z1z, Z1y, Z46, Z48, Z47, Z45, Z1n, Z1o, Z1m, Z3n, Z3k, Z3m, Z3l, Z3o, Z1l, Z29, Z32, Z3x, Z1i, Z1j, Z1k, Z3v, Z3w, Z1g, Z28, Z1h, Z3i, Z3f, Z3h, Z3g, Z3j, Z41, Z40, Z0t, Z0u, Z0v, Z0s, Z1f, Z4c, Z4b, Z4d, Z4a, Z49, ex, Z43, Z42, ev_t, ev_c, Z27, Z26, Z4e, Z4f, Z2m, Z2l, Z2f, Z2j, Z2k, Z2g, Z2h, Z2i, putc, exBslice, lfill, exField, exIdxV, exIdxP, exBox, exAlloc, Z3b, Z3c, exStore, exFieldA, Z34, Z33, Z39, Z38, exPick, exUn, exBeq, exMM, exSeq, seqGo, exExt, binV, intOp, subc, Z4s, Z4r, Z4p, Z4q, Z4n, Z4l, Z4m, Z4o, Z4i, Z4j, Z4g, Z4t, S0, encI, encB, Z4k, Z2e, Z25, Z4h, Z2b, Z24, Z36, Z37, Z35, Z3s, Z3t, Z3r, Z3p, Z3q, idxT_Bs, iA, iG, wA, wG, apA, hin, c_ap_k]
        refine AWb_for i (kI d M i) (kA d.next.length i) 4000 (iG d) (M1, mo) ⟨⟨hR, hCl⟩, fun _ k' h => by omega⟩ ?_ ?_
        · refine absGrid (n := d.next.length) (m := d.next.length) (M := M1) (by omega) (apG_0 d d.next.length d.next.length M1) (apG_10 d d.next.length d.next.length M1) (fun j hj => apG_r d M1 hj) ?_
          simp only [kA, iA, wA, apA]
          simp [RenL_snoc, RenL.cl, RenV.cl, Z2r, Z2o, Z2s, Z2t, Z2p, Z2v, Z2u, Z2q, Z2w, Z2x, Z1d, Z1c, Z1b, Z19, Z18, Z1a, Z1e, Z52, Z4v, Z4z, Z3y, Z51, Z50, Z3z, Z1p, Z1q, Z1x, Z1v, Z1w, Z1u, Z1t, Z1s, Z1r, Z44, Z43, Z42, Z4e, Z4f, Z22, Z23, Z3d, Z3e, Z27, Z26, vV_t, vV_f, vB_t, vB_f, encI, encB]
          exact ⟨by simp [idO], by simp [idO]⟩
        · rintro k ⟨M2, mo2⟩ hk ⟨⟨hR2, hCl2⟩, hK2⟩
          simp only at hCl2 hK2
          by_cases hkn : k < i
          · simp [AWb_seq, Z0m, Z0n, Z0j, Z0k, Z0r, Z0l, Z0p, Z0q, Z0o, Z21, Z20, Z22, Z23, Z3d, Z3e, Z3a, vIdx, Z4x, Z4w, Z4y, vApp, Z4u, Z3u, Z11, Z10, Z0z, Z0x, Z0w, Z0y, Z17, Z16, Z15, Z13, Z12, Z14, Z2c, Z2d, Z2a, Z2n, Z31, Z30, Z07, Z08, Z06, Z01, Z02, Z00, Z04, Z05, Z03, Z1z, Z1y, Z46, Z48, Z47, Z45, Z1n, Z1o, Z1m, Z3n, Z3k, Z3m, Z3l, Z3o, Z1l, Z29, Z32, Z3x, Z1i, Z1j, Z1k, Z3v, Z3w, Z1g, Z28, Z1h, Z3i, Z3f, Z3h, Z3g, Z3j, Z41, Z40, Z0t, Z0u, Z0v, Z0s, Z1f, Z4c, Z4b, Z4d, Z4a, Z49, ex, Z43, Z42, ev_t, ev_c, Z27, Z26, Z4e, Z4f, Z2m, Z2l, Z2f, Z2j, Z2k, Z2g, Z2h, Z2i, putc, exBslice, lfill, exField, exIdxV, exIdxP, exBox, exAlloc, Z3b, Z3c, exStore, exFieldA, Z34, Z33, Z39, Z38, exPick, exUn, exBeq, exMM, exSeq, seqGo, exExt, binV, intOp, subc, Z4s, Z4r, Z4p, Z4q, Z4n, Z4l, Z4m, Z4o, Z4i, Z4j, Z4g, Z4t, S0, encI, encB, Z4k, Z2e, Z25, Z4h, Z2b, Z24, Z36, Z37, Z35, Z3s, Z3t, Z3r, Z3p, Z3q, idxT_Bs, kA, iA, iG, wA, wG, apA, hkn, c_ap_s]
            refine AWb_for d.signs.toNat (sI d M i k) (sA d.next.length i k) 4000 (iG d) (M2, mo2) ⟨⟨⟨hR2, hCl2⟩, hK2⟩, fun _ k' h => by omega⟩ ?_ ?_
            · refine absGrid (n := d.next.length) (m := d.next.length) (M := M2) (by omega) (apG_0 d d.next.length d.next.length M2) (apG_10 d d.next.length d.next.length M2) (fun j hj => apG_r d M2 hj) ?_
              simp only [sA, kA, iA, wA, apA]
              simp [RenL_snoc, RenL.cl, RenV.cl, Z2r, Z2o, Z2s, Z2t, Z2p, Z2v, Z2u, Z2q, Z2w, Z2x, Z1d, Z1c, Z1b, Z19, Z18, Z1a, Z1e, Z52, Z4v, Z4z, Z3y, Z51, Z50, Z3z, Z1p, Z1q, Z1x, Z1v, Z1w, Z1u, Z1t, Z1s, Z1r, Z44, Z43, Z42, Z4e, Z4f, Z22, Z23, Z3d, Z3e, Z27, Z26, vV_t, vV_f, vB_t, vB_f, encI, encB]
              exact ⟨by simp [idO], by simp [idO]⟩
            · rintro j ⟨M3, mo3⟩ hj ⟨⟨⟨hR3, hCl3⟩, hK3⟩, hJ3⟩
              have hM3 : MOk d M3 := hR3.ok
              have g0 := apG_0 d d.next.length d.next.length M3
              have g10 := apG_10 d d.next.length d.next.length M3
              have gr := fun j (hj : j < d.next.length) => apG_r d (n := d.next.length) (m := d.next.length) M3 hj
              generalize hG : gOf (apG d d.next.length d.next.length M3) = g at g0 g10 gr
              have hkd : k < d.next.length := by omega
              by_cases hjs : (j : Int) < d.signs
              · obtain ⟨hja, hsa1, hsa2⟩ := step_at R hin (s := (j : Int)) (by omega) hjs
                obtain ⟨hjb, hsb1, hsb2⟩ := step_at R hkd (s := (j : Int)) (by omega) hjs
                have hja' : j < (d.next[i]).length := hja
                have hjb' : j < (d.next[k]).length := hjb
                have ea : (d.next[i])[j] = (stepD d i j : Int) := hsa1
                have eb : (d.next[k])[j] = (stepD d k j : Int) := hsb1
                generalize hxa : stepD d i j = xa at *
                generalize hxb : stepD d k j = xb at *
                cases hik : M3 i k with
                | true =>
                  simp [AWb_seq, Z0m, Z0n, Z0j, Z0k, Z0r, Z0l, Z0p, Z0q, Z0o, Z21, Z20, Z22, Z23, Z3d, Z3e, Z3a, vIdx, Z4x, Z4w, Z4y, vApp, Z4u, Z3u, Z11, Z10, Z0z, Z0x, Z0w, Z0y, Z17, Z16, Z15, Z13, Z12, Z14, Z2c, Z2d, Z2a, Z2n, Z31, Z30, Z07, Z08, Z06, Z01, Z02, Z00, Z04, Z05, Z03, Z1z, Z1y, Z46, Z48, Z47, Z45, Z1n, Z1o, Z1m, Z3n, Z3k, Z3m, Z3l, Z3o, Z1l, Z29, Z32, Z3x, Z1i, Z1j, Z1k, Z3v, Z3w, Z1g, Z28, Z1h, Z3i, Z3f, Z3h, Z3g, Z3j, Z41, Z40, Z0t, Z0u, Z0v, Z0s, Z1f, Z4c, Z4b, Z4d, Z4a, Z49, ex, Z43, Z42, ev_t, ev_c, Z27, Z26, Z4e, Z4f, Z2m, Z2l, Z2f, Z2j, Z2k, Z2g, Z2h, Z2i, putc, exBslice, lfill, exField, exIdxV, exIdxP, exBox, exAlloc, Z3b, Z3c, exStore, exFieldA, Z34, Z33, Z39, Z38, exPick, exUn, exBeq, exMM, exSeq, seqGo, exExt, binV, intOp, subc, Z4s, Z4r, Z4p, Z4q, Z4n, Z4l, Z4m, Z4o, Z4i, Z4j, Z4g, Z4t, S0, encI, encB, Z4k, Z2e, Z25, Z4h, Z2b, Z24, Z36, Z37, Z35, Z3s, Z3t, Z3r, Z3p, Z3q, idxT_Bs, sA, kA, iA, iG, wA, wG, apA, hG, g0, g10, gr, ed, ptrsL_g, hpl, rowL_len, rowL_at, hjs, hin, hkd, hik, hja', hjb', ea, eb, hsa2, hsb2]
                  rw [wrap_in _ (by omega)]
                  refine ⟨hkn, (M3, mo3), ⟨⟨hR3, hCl3⟩, fun hf k' hk' => ?_⟩, absGrid (by omega) g0 g10 gr ?_⟩
                  · by_cases hkk : k' = k
                    · subst hkk
                      have : M3 = M := hR3.no hf
                      intro hfl
                      rw [← this, hik] at hfl; cases hfl
                    · exact hK3 hf k' (by omega)
                  · simp only [kA, iA, wA, apA]
                    simp [RenL_snoc, RenL.cl, RenV.cl, Z2r, Z2o, Z2s, Z2t, Z2p, Z2v, Z2u, Z2q, Z2w, Z2x, Z1d, Z1c, Z1b, Z19, Z18, Z1a, Z1e, Z52, Z4v, Z4z, Z3y, Z51, Z50, Z3z, Z1p, Z1q, Z1x, Z1v, Z1w, Z1u, Z1t, Z1s, Z1r, Z44, Z43, Z42, Z4e, Z4f, Z22, Z23, Z3d, Z3e, Z27, Z26, vV_t, vV_f, vB_t, vB_f, encI, encB]
                    exact ⟨by simp [idO], by simp [idO]⟩
                | false =>
                  simp [AWb_seq, Z0m, Z0n, Z0j, Z0k, Z0r, Z0l, Z0p, Z0q, Z0o, Z21, Z20, Z22, Z23, Z3d, Z3e, Z3a, vIdx, Z4x, Z4w, Z4y, vApp, Z4u, Z3u, Z11, Z10, Z0z, Z0x, Z0w, Z0y, Z17, Z16, Z15, Z13, Z12, Z14, Z2c, Z2d, Z2a, Z2n, Z31, Z30, Z07, Z08, Z06, Z01, Z02, Z00, Z04, Z05, Z03, Z1z, Z1y, Z46, Z48, Z47, Z45, Z1n, Z1o, Z1m, Z3n, Z3k, Z3m, Z3l, Z3o, Z1l, Z29, Z32, Z3x, Z1i, Z1j, Z1k, Z3v, Z3w, Z1g, Z28, Z1h, Z3i, Z3f, Z3h, Z3g, Z3j, Z41, Z40, Z0t, Z0u, Z0v, Z0s, Z1f, Z4c, Z4b, Z4d, Z4a, Z49, ex, Z43, Z42, ev_t, ev_c, Z27, Z26, Z4e, Z4f, Z2m, Z2l, Z2f, Z2j, Z2k, Z2g, Z2h, Z2i, putc, exBslice, lfill, exField, exIdxV, exIdxP, exBox, exAlloc, Z3b, Z3c, exStore, exFieldA, Z34, Z33, Z39, Z38, exPick, exUn, exBeq, exMM, exSeq, seqGo, exExt, binV, intOp, subc, Z4s, Z4r, Z4p, Z4q, Z4n, Z4l, Z4m, Z4o, Z4i, Z4j, Z4g, Z4t, S0, encI, encB, Z4k, Z2e, Z25, Z4h, Z2b, Z24, Z36, Z37, Z35, Z3s, Z3t, Z3r, Z3p, Z3q, idxT_Bs, sA, kA, iA, iG, wA, wG, apA, hG, g0, g10, gr, ed, ptrsL_g, hpl, rowL_len, rowL_at, hjs, hin, hkd, hik, hja', hjb', ea, eb, hsa2, hsb2]
                  have hjn : j < d.signs.toNat := by omega
                  cases hab : M3 xa xb with
                  | false =>
                    simp [AWb_seq, Z0m, Z0n, Z0j, Z0k, Z0r, Z0l, Z0p, Z0q, Z0o, Z21, Z20, Z22, Z23, Z3d, Z3e, Z3a, vIdx, Z4x, Z4w, Z4y, vApp, Z4u, Z3u, Z11, Z10, Z0z, Z0x, Z0w, Z0y, Z17, Z16, Z15, Z13, Z12, Z14, Z2c, Z2d, Z2a, Z2n, Z31, Z30, Z07, Z08, Z06, Z01, Z02, Z00, Z04, Z05, Z03, Z1z, Z1y, Z46, Z48, Z47, Z45, Z1n, Z1o, Z1m, Z3n, Z3k, Z3m, Z3l, Z3o, Z1l, Z29, Z32, Z3x, Z1i, Z1j, Z1k, Z3v, Z3w, Z1g, Z28, Z1h, Z3i, Z3f, Z3h, Z3g, Z3j, Z41, Z40, Z0t, Z0u, Z0v, Z0s, Z1f, Z4c, Z4b, Z4d, Z4a, Z49, ex, Z43, Z42, ev_t, ev_c, Z27, Z26, Z4e, Z4f, Z2m, Z2l, Z2f, Z2j, Z2k, Z2g, Z2h, Z2i, putc, exBslice, lfill, exField, exIdxV, exIdxP, exBox, exAlloc, Z3b, Z3c, exStore, exFieldA, Z34, Z33, Z39, Z38, exPick, exUn, exBeq, exMM, exSeq, seqGo, exExt, binV, intOp, subc, Z4s, Z4r, Z4p, Z4q, Z4n, Z4l, Z4m, Z4o, Z4i, Z4j, Z4g, Z4t, S0, encI, encB, Z4k, Z2e, Z25, Z4h, Z2b, Z24, Z36, Z37, Z35, Z3s, Z3t, Z3r, Z3p, Z3q, idxT_Bs, hab]
                    rw [wrap_in _ (by omega)]
                    refine ⟨hjn, (M3, mo3), ⟨⟨⟨hR3, hCl3⟩, hK3⟩, fun hf t ht => ?_⟩, absGrid (by omega) g0 g10 gr ?_⟩
                    · by_cases htj : t = j
                      · subst htj
                        have : M3 = M := hR3.no hf
                        rw [hxa, hxb, ← this]; exact hab
                      · exact hJ3 hf t (by omega)
                    · simp only [sA, kA, iA, wA, apA]
                      simp [RenL_snoc, RenL.cl, RenV.cl, Z2r, Z2o, Z2s, Z2t, Z2p, Z2v, Z2u, Z2q, Z2w, Z2x, Z1d, Z1c, Z1b, Z19, Z18, Z1a, Z1e, Z52, Z4v, Z4z, Z3y, Z51, Z50, Z3z, Z1p, Z1q, Z1x, Z1v, Z1w, Z1u, Z1t, Z1s, Z1r, Z44, Z43, Z42, Z4e, Z4f, Z22, Z23, Z3d, Z3e, Z27, Z26, vV_t, vV_f, vB_t, vB_f, encI, encB]
                      exact ⟨by simp [idO], by simp [idO]⟩
                  | true =>
                    have hki : ¬ (k = i) := by omega
                    have z1 : ¬ (0 = 11 + k) := by omega
                    have z2 : ¬ (0 = 11 + i) := by omega
                    have z3 : ¬ (10 = 11 + k) := by omega
                    have z4 : ¬ (10 = 11 + i) := by omega
                    have hik' : ¬ (i = k) := by omega
                    simp [AWb_seq, Z0m, Z0n, Z0j, Z0k, Z0r, Z0l, Z0p, Z0q, Z0o, Z21, Z20, Z22, Z23, Z3d, Z3e, Z3a, vIdx, Z4x, Z4w, Z4y, vApp, Z4u, Z3u, Z11, Z10, Z0z, Z0x, Z0w, Z0y, Z17, Z16, Z15, Z13, Z12, Z14, Z2c, Z2d, Z2a, Z2n, Z31, Z30, Z07, Z08, Z06, Z01, Z02, Z00, Z04, Z05, Z03, Z1z, Z1y, Z46, Z48, Z47, Z45, Z1n, Z1o, Z1m, Z3n, Z3k, Z3m, Z3l, Z3o, Z1l, Z29, Z32, Z3x, Z1i, Z1j, Z1k, Z3v, Z3w, Z1g, Z28, Z1h, Z3i, Z3f, Z3h, Z3g, Z3j, Z41, Z40, Z0t, Z0u, Z0v, Z0s, Z1f, Z4c, Z4b, Z4d, Z4a, Z49, ex, Z43, Z42, ev_t, ev_c, Z27, Z26, Z4e, Z4f, Z2m, Z2l, Z2f, Z2j, Z2k, Z2g, Z2h, Z2i, putc, exBslice, lfill, exField, exIdxV, exIdxP, exBox, exAlloc, Z3b, Z3c, exStore, exFieldA, Z34, Z33, Z39, Z38, exPick, exUn, exBeq, exMM, exSeq, seqGo, exExt, binV, intOp, subc, Z4s, Z4r, Z4p, Z4q, Z4n, Z4l, Z4m, Z4o, Z4i, Z4j, Z4g, Z4t, S0, encI, encB, Z4k, Z2e, Z25, Z4h, Z2b, Z24, Z36, Z37, Z35, Z3s, Z3t, Z3r, Z3p, Z3q, idxT_Bs, hab, hG, g0, g10, gr, ptrsL_g, hpl, rowL_len, rowL_at, hin, hkd, hki, hik']
                    rw [wrap_in _ (by omega)]
                    have hlt3 : fcnt d.next.length (upd2 M3 i k) < fcnt d.next.length M := by
                      have h1 := fcnt_lt hin hkd hik
                      cases mo3 with
                      | true => have := hR3.lt rfl; simp only at this; omega
                      | false => have : M3 = M := hR3.no rfl; rw [← this]; exact h1
                    refine ⟨hjn, (upd2 M3 i k, true), ⟨⟨⟨⟨hM3.upd hik' hjs (fun _ _ => by rw [hxa, hxb]; exact ⟨hab, hsa2, hsb2⟩), by simp, fun _ => hlt3⟩, by simp⟩, by simp⟩, by simp⟩, absGrid (by omega) (by simp [Z4e, g0, z1, z2]) (by simp [Z4e, g10, z3, z4]) (fun j' hj' => ?_) ?_⟩
                    · rw [row_upd hik' hin hkd]
                      by_cases hjk : j' = k
                      · subst hjk
                        simp [Z4e, List.map_set, encB]
                      · by_cases hji : j' = i
                        · subst hji
                          simp [Z4e, List.map_set, encB, hjk]
                        · simp [Z4e, hjk, hji, gr j' hj']
                    · simp only [sA, kA, iA, wA, apA]
                      simp [RenL_snoc, RenL.cl, RenV.cl, Z2r, Z2o, Z2s, Z2t, Z2p, Z2v, Z2u, Z2q, Z2w, Z2x, Z1d, Z1c, Z1b, Z19, Z18, Z1a, Z1e, Z52, Z4v, Z4z, Z3y, Z51, Z50, Z3z, Z1p, Z1q, Z1x, Z1v, Z1w, Z1u, Z1t, Z1s, Z1r, Z44, Z43, Z42, Z4e, Z4f, Z22, Z23, Z3d, Z3e, Z27, Z26, vV_t, vV_f, vB_t, vB_f, encI, encB]
                      exact ⟨by simp [idO], by simp [idO]⟩
              · simp [AWb_seq, Z0m, Z0n, Z0j, Z0k, Z0r, Z0l, Z0p, Z0q, Z0o, Z21, Z20, Z22, Z23, Z3d, Z3e, Z3a, vIdx, Z4x, Z4w, Z4y, vApp, Z4u, Z3u, Z11, Z10, Z0z, Z0x, Z0w, Z0y, Z17, Z16, Z15, Z13, Z12, Z14, Z2c, Z2d, Z2a, Z2n, Z31, Z30, Z07, Z08, Z06, Z01, Z02, Z00, Z04, Z05, Z03, Z1z, Z1y, Z46, Z48, Z47, Z45, Z1n, Z1o, Z1m, Z3n, Z3k, Z3m, Z3l, Z3o, Z1l, Z29, Z32, Z3x, Z1i, Z1j, Z1k, Z3v, Z3w, Z1g, Z28, Z1h, Z3i, Z3f, Z3h, Z3g, Z3j, Z41, Z40, Z0t, Z0u, Z0v, Z0s, Z1f, Z4c, Z4b, Z4d, Z4a, Z49, ex, Z43, Z42, ev_t, ev_c, Z27, Z26, Z4e, Z4f, Z2m, Z2l, Z2f, Z2j, Z2k, Z2g, Z2h, Z2i, putc, exBslice, lfill, exField, exIdxV, exIdxP, exBox, exAlloc, Z3b, Z3c, exStore, exFieldA, Z34, Z33, Z39, Z38, exPick, exUn, exBeq, exMM, exSeq, seqGo, exExt, binV, intOp, subc, Z4s, Z4r, Z4p, Z4q, Z4n, Z4l, Z4m, Z4o, Z4i, Z4j, Z4g, Z4t, S0, encI, encB, Z4k, Z2e, Z25, Z4h, Z2b, Z24, Z36, Z37, Z35, Z3s, Z3t, Z3r, Z3p, Z3q, idxT_Bs, sA, kA, iA, iG, wA, wG, apA, hG, g0, g10, gr, ed, ptrsL_g, hpl, rowL_len, rowL_at, hjs, hin, hkd]
                rw [wrap_in _ (by omega)]
                refine ⟨hkn, (M3, mo3), ⟨⟨hR3, hCl3⟩, fun hf k' hk' => ?_⟩, absGrid (by omega) g0 g10 gr ?_⟩
                · by_cases hkk : k' = k
                  · subst hkk
                    intro _ t ht
                    exact hJ3 hf t (by omega)
                  · exact hK3 hf k' (by omega)
                · simp only [kA, iA, wA, apA]
                  simp [RenL_snoc, RenL.cl, RenV.cl, Z2r, Z2o, Z2s, Z2t, Z2p, Z2v, Z2u, Z2q, Z2w, Z2x, Z1d, Z1c, Z1b, Z19, Z18, Z1a, Z1e, Z52, Z4v, Z4z, Z3y, Z51, Z50, Z3z, Z1p, Z1q, Z1x, Z1v, Z1w, Z1u, Z1t, Z1s, Z1r, Z44, Z43, Z42, Z4e, Z4f, Z22, Z23, Z3d, Z3e, Z27, Z26, vV_t, vV_f, vB_t, vB_f, encI, encB]
                  exact ⟨by simp [idO], by simp [idO]⟩
          · simp [AWb_seq, Z0m, Z0n, Z0j, Z0k, Z0r, Z0l, Z0p, Z0q, Z0o, Z21, Z20, Z22, Z23, Z3d, Z3e, Z3a, vIdx, Z4x, Z4w, Z4y, vApp, Z4u, Z3u, Z11, Z10, Z0z, Z0x, Z0w, Z0y, Z17, Z16, Z15, Z13, Z12, Z14, Z2c, Z2d, Z2a, Z2n, Z31, Z30, Z07, Z08, Z06, Z01, Z02, Z00, Z04, Z05, Z03, Z1z, Z1y, Z46, Z48, Z47, Z45, Z1n, Z1o, Z1m, Z3n, Z3k, Z3m, Z3l, Z3o, Z1l, Z29, Z32, Z3x, Z1i, Z1j, Z1k, Z3v, Z3w, Z1g, Z28, Z1h, Z3i, Z3f, Z3h, Z3g, Z3j, Z41, Z40, Z0t, Z0u, Z0v, Z0s, Z1f, Z4c, Z4b, Z4d, Z4a, Z49, ex, Z43, Z42, ev_t, ev_c, Z27, Z26, Z4e, Z4f, Z2m, Z2l, Z2f, Z2j, Z2k, Z2g, Z2h, Z2i, putc, exBslice, lfill, exField, exIdxV, exIdxP, exBox, exAlloc, Z3b, Z3c, exStore, exFieldA, Z34, Z33, Z39, Z38, exPick, exUn, exBeq, exMM, exSeq, seqGo, exExt, binV, intOp, subc, Z4s, Z4r, Z4p, Z4q, Z4n, Z4l, Z4m, Z4o, Z4i, Z4j, Z4g, Z4t, S0, encI, encB, Z4k, Z2e, Z25, Z4h, Z2b, Z24, Z36, Z37, Z35, Z3s, Z3t, Z3r, Z3p, Z3q, idxT_Bs, kA, iA, iG, wA, wG, apA, hkn]
            rw [wrap_in _ (by omega)]
            refine ⟨hin, (M2, mo2), ⟨hR2, fun hf i' k' hi' hk' => ?_⟩, absGrid (n := d.next.length) (m := d.next.length) (M := M2) (by omega) (apG_0 d d.next.length d.next.length M2) (apG_10 d d.next.length d.next.length M2) (fun j hj => apG_r d M2 hj) ?_⟩
            · by_cases hii : i' = i
              · subst hii; exact hK2 hf k' (by omega)
              · exact hCl2 hf i' k' (by omega) hk'
            · simp only [iA, wA, apA]
              simp [RenL_snoc, RenL.cl, RenV.cl, Z2r, Z2o, Z2s, Z2t, Z2p, Z2v, Z2u, Z2q, Z2w, Z2x, Z1d, Z1c, Z1b, Z19, Z18, Z1a, Z1e, Z52, Z4v, Z4z, Z3y, Z51, Z50, Z3z, Z1p, Z1q, Z1x, Z1v, Z1w, Z1u, Z1t, Z1s, Z1r, Z44, Z43, Z42, Z4e, Z4f, Z22, Z23, Z3d, Z3e, Z27, Z26, vV_t, vV_f, vB_t, vB_f, encI, encB]
              exact ⟨by simp [idO], by simp [idO]⟩
      · simp [AWb_seq, Z0m, Z0n, Z0j, Z0k, Z0r, Z0l, Z0p, Z0q, Z0o, Z21, Z20, Z22, Z23, Z3d, Z3e, Z3a, vIdx, Z4x, Z4w, Z4y, vApp, Z4u, Z3u, Z11, Z10, Z0z, Z0x, Z0w, Z0y, Z17, Z16, Z15, Z13, Z12, Z14, Z2c, Z2d, Z2a, Z2n, Z31, Z30, Z07, Z08, Z06, Z01, Z02, Z00, Z04, Z05, Z03, Z1z, Z1y, Z46, Z48, Z47, Z45, Z1n, Z1o, Z1m, Z3n, Z3k, Z3m, Z3l, Z3o, Z1l, Z29, Z32, Z3x, Z1i, Z1j, Z1k, Z3v, Z3w, Z1g, Z28, Z1h, Z3i, Z3f, Z3h, Z3g, Z3j, Z41, Z40, Z0t, Z0u, Z0v, Z0s, Z1f, Z4c, Z4b, Z4d, Z4a, Z49, ex, Z43, Z42, ev_t, ev_c, Z27, Z26, Z4e, Z4f, Z2m, Z2l, Z2f, Z2j, Z2k, Z2g, Z2h, Z2i, putc, exBslice, lfill, exField, exIdxV, exIdxP, exBox, exAlloc, Z3b, Z3c, exStore, exFieldA, Z34, Z33, Z39, Z38, exPick, exUn, exBeq, exMM, exSeq, seqGo, exExt, binV, intOp, subc, Z4s, Z4r, Z4p, Z4q, Z4n, Z4l, Z4m, Z4o, Z4i, Z4j, Z4g, Z4t, S0, encI, encB, Z4k, Z2e, Z25, Z4h, Z2b, Z24, Z36, Z37, Z35, Z3s, Z3t, Z3r, Z3p, Z3q, idxT_Bs, iA, iG, wA, wG, apA, hin]
        have hR1 := hR.ok
        refine ⟨_, (M1, mo), ?_, ⟨hR1, rfl, fun hf i' k' hi' hk' => ?_⟩, absGrid (n := d.next.length) (m := d.next.length) (M := M1) (by omega) (apG_0 d d.next.length d.next.length M1) (apG_10 d d.next.length d.next.length M1) (fun j hj => apG_r d M1 hj) ?_⟩
        · rw [hm]
          cases mo with
          | true => have := hR.lt rfl; simp only at this ⊢; simp; omega
          | false => have := hR.no rfl; simp only at this ⊢; rw [this]; simp
        · have : M1 = M := hR.no hf
          simp only
          rw [this]
          exact hCl hf i' k' (by omega) hk'
        · simp only [wA, apA]
          simp [RenL_snoc, RenL.cl, RenV.cl, Z2r, Z2o, Z2s, Z2t, Z2p, Z2v, Z2u, Z2q, Z2w, Z2x, Z1d, Z1c, Z1b, Z19, Z18, Z1a, Z1e, Z52, Z4v, Z4z, Z3y, Z51, Z50, Z3z, Z1p, Z1q, Z1x, Z1v, Z1w, Z1u, Z1t, Z1s, Z1r, Z44, Z43, Z42, Z4e, Z4f, Z22, Z23, Z3d, Z3e, Z27, Z26, vV_t, vV_f, vB_t, vB_f, encI, encB]
          exact ⟨by simp [idO], by simp [idO]⟩
/-! ### the first rows -/
def oI (d : Det) (i : Nat) (_ : Unit) : Prop := True
def oA (n : Nat) (i : Nat) (_ : Unit) : List (Nat × AV) := (5, encI i) :: apA n
def oG (d : Det) (i : Nat) (_ : Unit) : List (Nat × Option Blk) := apG d d.next.length i (neM d)
def fI (d : Det) (i : Nat) (k : Nat) (rw_ : List Bool) : Prop := rw_.length = d.next.length ∧ rw_.take k = (rowL (neM d) d.next.length i).take k
def fA (n i : Nat) (k : Nat) (_ : List Bool) : List (Nat × AV) := (6, encI k) :: oA n i ()
def fG (d : Det) (i : Nat) (_ : Nat) (rw_ : List Bool) : List (Nat × Option Blk) := (11 + i, some (.arr 1 (rw_.map encB))) :: (0, some (.arr 3 [encDet d])) :: (10, some (.arr 1 (ptrsL d.next.length (i + 1)))) :: rowsG (neM d) d.next.length i
theorem take_setB (l : List Bool) (k : Nat) (v : Bool) (h : k < l.length) : (l.set k v).take (k + 1) = l.take k ++ [v] := by
  rw [List.take_succ_eq_append_getElem (by simpa using h), List.take_set_of_le (Nat.le_refl _)]; simp
theorem idO_ok2 {i new : Nat} (h : i < 3000) (hw : 4000 ≤ new) : OOk ((11 + i, new) :: idO i) [] 0 4000 := by
  have h1 := idO_ok (m := i) (by omega)
  refine ⟨fun p hp => ?_, ?_⟩
  · rcases List.mem_cons.mp hp with rfl | hp
    · simp; omega
    · exact h1.a p hp
  · rw [List.pairwise_cons]
    refine ⟨fun p hp => ?_, h1.u⟩
    have h2 : p.1 < 11 + i ∧ p.2 < 4000 := by
      simp only [idO, List.mem_cons, List.mem_map, List.mem_range] at hp
      rcases hp with rfl | rfl | ⟨j, hj, rfl⟩ <;> simp <;> omega
    simp only; omega
theorem ptrsL_zero (n : Nat) : ptrsL n 0 = List.replicate n (.sl true []) := by
  apply List.ext_getElem
  · simp [ptrsL]
  · intro i h1 h2
    simp [ptrsL]
theorem ren_ptrs1 {gF : Nat → Option Blk} {R : Nat → Nat → Prop} {n i new : Nat} (h : ∀ j, j < i → R (11 + j) (11 + j)) (h2 : R (11 + i) new) : RenL gF R ((ptrsL n i).set i (.own new 0 n)) (ptrsL n (i + 1)) := by
  refine ⟨by simp [ptrsL], fun j h1 h3 => ?_⟩
  rw [List.getElem_set]
  simp only [ptrsL, List.getElem_map, List.getElem_range]
  by_cases hji : j = i
  · subst hji
    rw [if_pos rfl, if_pos (by omega)]
    exact .own _ _ _ _ h2
  · rw [if_neg (by omega)]
    by_cases hlt : j < i
    · rw [if_pos hlt, if_pos (by omega)]
      exact .own _ _ _ _ (h j hlt)
    · rw [if_neg hlt, if_neg (by omega)]
      exact .cl (Z2w _)
/-- A new row. -/
theorem absRow {a : AF} {S : St} {d : Det} {n i new : Nat} {rw_ : List Bool} {A : List (Nat × AV)} (hi : i < 3000) (hw : 4000 ≤ new) (hn : n = d.next.length) (h0 : S.g 0 = some (.arr 3 [encDet d])) (h10 : S.g 10 = some (.arr 1 ((ptrsL n i).set i (.own new 0 n))))
    (hnew : S.g new = some (.arr 1 (rw_.map encB))) (hr : ∀ j, j < i → S.g (11 + j) = some (.arr 1 ((rowL (neM d) n j).map encB))) (hA : ∀ p ∈ A, RenV (only [] S.g) (relO ((11 + i, new) :: idO i) 0) (a p.1) p.2) : Abs 0 a S (afOf A) ⟨4000, gOf (fG d i 0 rw_)⟩ := by
  subst hn
  refine Abs.of ((11 + i, new) :: idO i) [] (by omega) (idO_ok2 hi hw) (fun p hp => .inr ?_) hA
  simp only [fG, rowsG, List.mem_cons, List.mem_map, List.mem_range] at hp
  rcases hp with rfl | rfl | rfl | ⟨j, hj, rfl⟩
  · refine ⟨new, by simp, ?_⟩
    rw [hnew, Z1r]
    exact ⟨rfl, RenL.cl (Z18 _)⟩
  · refine ⟨0, by simp [idO], ?_⟩
    rw [h0, Z1r]
    exact ⟨rfl, RenL.cl (by intro y hy; simp at hy; subst hy; exact closed_Det d)⟩
  · refine ⟨10, by simp [idO], ?_⟩
    rw [h10, Z1r]
    exact ⟨rfl, ren_ptrs1 (fun j hj => .inl (by simp [idO, hj])) (.inl (by simp))⟩
  · refine ⟨11 + j, by simp [idO, hj], ?_⟩
    rw [hr j hj, Z1r]
    exact ⟨rfl, RenL.cl (Z18 _)⟩
/-- The row is there: nothing moved. -/
theorem absRow2 {a : AF} {S : St} {d : Det} {n i : Nat} {rw_ : List Bool} {A : List (Nat × AV)} (hi : i < 3000) (hn : n = d.next.length) (h0 : S.g 0 = some (.arr 3 [encDet d])) (h10 : S.g 10 = some (.arr 1 (ptrsL n (i + 1))))
    (hnew : S.g (11 + i) = some (.arr 1 (rw_.map encB))) (hr : ∀ j, j < i → S.g (11 + j) = some (.arr 1 ((rowL (neM d) n j).map encB))) (hA : ∀ p ∈ A, RenV (only [] S.g) (relO (idO (i + 1)) 0) (a p.1) p.2) : Abs 0 a S (afOf A) ⟨4000, gOf (fG d i 0 rw_)⟩ := by
  subst hn
  refine Abs.of (idO (i + 1)) [] (by omega) (idO_ok (by omega)) (fun p hp => .inr ?_) hA
  simp only [fG, rowsG, List.mem_cons, List.mem_map, List.mem_range] at hp
  rcases hp with rfl | rfl | rfl | ⟨j, hj, rfl⟩
  · refine ⟨11 + i, by simp [idO], ?_⟩
    rw [hnew, Z1r]
    exact ⟨rfl, RenL.cl (Z18 _)⟩
  · refine ⟨0, by simp [idO], ?_⟩
    rw [h0, Z1r]
    exact ⟨rfl, RenL.cl (by intro y hy; simp at hy; subst hy; exact closed_Det d)⟩
  · refine ⟨10, by simp [idO], ?_⟩
    rw [h10, Z1r]
    exact ⟨rfl, ren_ptrs fun j hj => idO_r hj⟩
  · refine ⟨11 + j, by simp [idO]; omega, ?_⟩
    rw [hr j hj, Z1r]
    exact ⟨rfl, RenL.cl (Z18 _)⟩
theorem fG_0 (d : Det) (i : Nat) (rw_ : List Bool) : gOf (fG d i 0 rw_) 0 = some (.arr 3 [encDet d]) := by
  have : ¬ (0 = 11 + i) := by omega
  simp [fG, Z3d, this]
theorem fG_10 (d : Det) (i : Nat) (rw_ : List Bool) : gOf (fG d i 0 rw_) 10 = some (.arr 1 (ptrsL d.next.length (i + 1))) := by
  have : ¬ (10 = 11 + i) := by omega
  simp [fG, Z3d, this]
theorem fG_n (d : Det) (i : Nat) (rw_ : List Bool) : gOf (fG d i 0 rw_) (11 + i) = some (.arr 1 (rw_.map encB)) := by simp [fG, Z3d]
theorem fG_r (d : Det) {i j : Nat} (rw_ : List Bool) (h : j < i) : gOf (fG d i 0 rw_) (11 + j) = some (.arr 1 ((rowL (neM d) d.next.length j).map encB)) := by
  unfold fG
  rw [Z3d, if_neg (by omega), Z3d, if_neg (by omega), Z3d, if_neg (by omega)]
  exact gOf_rowsG h
theorem apart_body {P : Program} {d : Det} (R : RightD d) : AWb P 0 c_caesuraref17_apart (RetK [2] (FzK (encBss (apM (classesD d) d.next.length)))) (argF [encDet d]) S0 := by
  have hn2 := R.n2
  have hfn := R.fin
  have C := classesD_ok R
  have ed : (encDet d).cells = [encI d.signs, encIss d.next, encBs d.fin] := rfl
  have q1 : 24 * (d.next.length : Int) ≤ 281474976710656 := by omega
  have q2 : (d.next.length : Int) ≤ 9223372036854775807 := by omega
  have q3 : (d.next.length : Int) ≤ 281474976710656 := by omega
  simp [AWb_seq, Z0m, Z0n, Z0j, Z0k, Z0r, Z0l, Z0p, Z0q, Z0o, Z21, Z20, Z22, Z23, Z3d, Z3e, Z3a, vIdx, Z4x, Z4w, Z4y, vApp, Z4u, Z3u, Z11, Z10, Z0z, Z0x, Z0w, Z0y, Z17, Z16, Z15, Z13, Z12, Z14, Z2c, Z2d, Z2a, Z2n, Z31, Z30, Z07, Z08, Z06, Z01, Z02, Z00, Z04, Z05, Z03, Z1z, Z1y, Z46, Z48, Z47, Z45, Z1n, Z1o, Z1m, Z3n, Z3k, Z3m, Z3l, Z3o, Z1l, Z29, Z32, Z3x, Z1i, Z1j, Z1k, Z3v, Z3w, Z1g, Z28, Z1h, Z3i, Z3f, Z3h, Z3g, Z3j, Z41, Z40, Z0t, Z0u, Z0v, Z0s, Z1f, Z4c, Z4b, Z4d, Z4a, Z49, ex, Z43, Z42, ev_t, ev_c, Z27, Z26, Z4e, Z4f, Z2m, Z2l, Z2f, Z2j, Z2k, Z2g, Z2h, Z2i, putc, exBslice, lfill, exField, exIdxV, exIdxP, exBox, exAlloc, Z3b, Z3c, exStore, exFieldA, Z34, Z33, Z39, Z38, exPick, exUn, exBeq, exMM, exSeq, seqGo, exExt, binV, intOp, subc, Z4s, Z4r, Z4p, Z4q, Z4n, Z4l, Z4m, Z4o, Z4i, Z4j, Z4g, Z4t, S0, encI, encB, Z4k, Z2e, Z25, Z4h, Z2b, Z24, Z36, Z37, Z35, Z3s, Z3t, Z3r, Z3p, Z3q, idxT_Bs, c_caesuraref17_apart, exMks, q1, q2, q3, c_ap_o]
  refine AWb_for d.next.length (oI d) (oA d.next.length) 4000 (oG d) () trivial ?_ ?_
  · refine Abs.of [(0, 0), (10, 7)] [] (by omega) ⟨by simp, by simp⟩ ?_ ?_
    · simp only [oG, apG, rowsG, List.range_zero, List.map_nil, ptrsL_zero]
      simp [RenL_snoc, RenL.cl, RenV.cl, Z2r, Z2o, Z2s, Z2t, Z2p, Z2v, Z2u, Z2q, Z2w, Z2x, Z1d, Z1c, Z1b, Z19, Z18, Z1a, Z1e, Z52, Z4v, Z4z, Z3y, Z51, Z50, Z3z, Z1p, Z1q, Z1x, Z1v, Z1w, Z1u, Z1t, Z1s, Z1r, Z44, Z43, Z42, Z4e, Z4f, Z22, Z23, Z3d, Z3e, Z27, Z26, vV_t, vV_f, vB_t, vB_f, encI, encB, closed_Det]
    · simp only [oA, apA]
      simp [RenL_snoc, RenL.cl, RenV.cl, Z2r, Z2o, Z2s, Z2t, Z2p, Z2v, Z2u, Z2q, Z2w, Z2x, Z1d, Z1c, Z1b, Z19, Z18, Z1a, Z1e, Z52, Z4v, Z4z, Z3y, Z51, Z50, Z3z, Z1p, Z1q, Z1x, Z1v, Z1w, Z1u, Z1t, Z1s, Z1r, Z44, Z43, Z42, Z4e, Z4f, Z22, Z23, Z3d, Z3e, Z27, Z26, vV_t, vV_f, vB_t, vB_f, encI, encB]
  · rintro i _ hi _
    by_cases hlt : i < d.next.length
    · have g0 := apG_0 d d.next.length i (neM d)
      have g10 := apG_10 d d.next.length i (neM d)
      have gr := fun j (hj : j < i) => apG_r d (n := d.next.length) (m := i) (neM d) hj
      generalize hG : gOf (apG d d.next.length i (neM d)) = g at g0 g10 gr
      have hpl := ptrsL_len d.next.length i
      simp [AWb_seq, Z0m, Z0n, Z0j, Z0k, Z0r, Z0l, Z0p, Z0q, Z0o, Z21, Z20, Z22, Z23, Z3d, Z3e, Z3a, vIdx, Z4x, Z4w, Z4y, vApp, Z4u, Z3u, Z11, Z10, Z0z, Z0x, Z0w, Z0y, Z17, Z16, Z15, Z13, Z12, Z14, Z2c, Z2d, Z2a, Z2n, Z31, Z30, Z07, Z08, Z06, Z01, Z02, Z00, Z04, Z05, Z03, Z1z, Z1y, Z46, Z48, Z47, Z45, Z1n, Z1o, Z1m, Z3n, Z3k, Z3m, Z3l, Z3o, Z1l, Z29, Z32, Z3x, Z1i, Z1j, Z1k, Z3v, Z3w, Z1g, Z28, Z1h, Z3i, Z3f, Z3h, Z3g, Z3j, Z41, Z40, Z0t, Z0u, Z0v, Z0s, Z1f, Z4c, Z4b, Z4d, Z4a, Z49, ex, Z43, Z42, ev_t, ev_c, Z27, Z26, Z4e, Z4f, Z2m, Z2l, Z2f, Z2j, Z2k, Z2g, Z2h, Z2i, putc, exBslice, lfill, exField, exIdxV, exIdxP, exBox, exAlloc, Z3b, Z3c, exStore, exFieldA, Z34, Z33, Z39, Z38, exPick, exUn, exBeq, exMM, exSeq, seqGo, exExt, binV, intOp, subc, Z4s, Z4r, Z4p, Z4q, Z4n, Z4l, Z4m, Z4o, Z4i, Z4j, Z4g, Z4t, S0, encI, encB, Z4k, Z2e, Z25, Z4h, Z2b, Z24, Z36, Z37, Z35, Z3s, Z3t, Z3r, Z3p, Z3q, idxT_Bs, oA, oG, apA, hG, g0, g10, gr, hlt, exMks, q3, q2, hpl, ptrsL_g2, c_ap_f]
      refine AWb_for d.next.length (fI d i) (fA d.next.length i) 4000 (fG d i) (List.replicate d.next.length false) ⟨by simp, by simp⟩ ?_ ?_
      · refine absRow (new := 4006) (by omega) (by omega) rfl (by simp [Z4e, g0]) (by simp [Z4e, g10]) (by simp [Z4e, encB]) (fun j hj => ?_) ?_
        · have z1 : ¬ (11 + j = 4006) := by omega
          have z2 : ¬ (11 + j = 10) := by omega
          simp [Z4e, z1, z2, gr j hj]
        · simp only [fA, oA, apA]
          simp [RenL_snoc, RenL.cl, RenV.cl, Z2r, Z2o, Z2s, Z2t, Z2p, Z2v, Z2u, Z2q, Z2w, Z2x, Z1d, Z1c, Z1b, Z19, Z18, Z1a, Z1e, Z52, Z4v, Z4z, Z3y, Z51, Z50, Z3z, Z1p, Z1q, Z1x, Z1v, Z1w, Z1u, Z1t, Z1s, Z1r, Z44, Z43, Z42, Z4e, Z4f, Z22, Z23, Z3d, Z3e, Z27, Z26, vV_t, vV_f, vB_t, vB_f, encI, encB]
          exact ⟨by simp [idO], by simp [idO]⟩
      · rintro k rw_ hk ⟨h1, h2⟩
        have f0 : gOf (fG d i k rw_) 0 = _ := fG_0 d i rw_
        have f10 : gOf (fG d i k rw_) 10 = _ := fG_10 d i rw_
        have fn : gOf (fG d i k rw_) (11 + i) = _ := fG_n d i rw_
        have fr : ∀ j, j < i → gOf (fG d i k rw_) (11 + j) = _ := fun j (hj : j < i) => fG_r d rw_ hj
        generalize hGF : gOf (fG d i k rw_) = gf at f0 f10 fn fr
        have hpl1 := ptrsL_len d.next.length (i + 1)
        have hpi : ∀ h : i < (ptrsL d.next.length (i + 1)).length, (ptrsL d.next.length (i + 1))[i] = .own (11 + i) 0 d.next.length := fun h => by
          simp [ptrsL]
        by_cases hkn : k < d.next.length
        · have hfi : i < d.fin.length := by omega
          have hfk : k < d.fin.length := by omega
          have e1 : d.fin[i] = finB d i := by rw [finB, List.getD_eq_getElem?_getD, List.getElem?_eq_getElem hfi]; rfl
          have e2 : d.fin[k] = finB d k := by rw [finB, List.getD_eq_getElem?_getD, List.getElem?_eq_getElem hfk]; rfl
          simp [AWb_seq, Z0m, Z0n, Z0j, Z0k, Z0r, Z0l, Z0p, Z0q, Z0o, Z21, Z20, Z22, Z23, Z3d, Z3e, Z3a, vIdx, Z4x, Z4w, Z4y, vApp, Z4u, Z3u, Z11, Z10, Z0z, Z0x, Z0w, Z0y, Z17, Z16, Z15, Z13, Z12, Z14, Z2c, Z2d, Z2a, Z2n, Z31, Z30, Z07, Z08, Z06, Z01, Z02, Z00, Z04, Z05, Z03, Z1z, Z1y, Z46, Z48, Z47, Z45, Z1n, Z1o, Z1m, Z3n, Z3k, Z3m, Z3l, Z3o, Z1l, Z29, Z32, Z3x, Z1i, Z1j, Z1k, Z3v, Z3w, Z1g, Z28, Z1h, Z3i, Z3f, Z3h, Z3g, Z3j, Z41, Z40, Z0t, Z0u, Z0v, Z0s, Z1f, Z4c, Z4b, Z4d, Z4a, Z49, ex, Z43, Z42, ev_t, ev_c, Z27, Z26, Z4e, Z4f, Z2m, Z2l, Z2f, Z2j, Z2k, Z2g, Z2h, Z2i, putc, exBslice, lfill, exField, exIdxV, exIdxP, exBox, exAlloc, Z3b, Z3c, exStore, exFieldA, Z34, Z33, Z39, Z38, exPick, exUn, exBeq, exMM, exSeq, seqGo, exExt, binV, intOp, subc, Z4s, Z4r, Z4p, Z4q, Z4n, Z4l, Z4m, Z4o, Z4i, Z4j, Z4g, Z4t, S0, encI, encB, Z4k, Z2e, Z25, Z4h, Z2b, Z24, Z36, Z37, Z35, Z3s, Z3t, Z3r, Z3p, Z3q, idxT_Bs, fA, oA, apA, hGF, f0, f10, fn, fr, hkn, hlt, hpl1, hpi, h1, ed, hfi, hfk, e1, e2]
          rw [wrap_in _ (by omega)]
          have hv : (finB d i != finB d k) = neM d i k := by
            unfold neM
            cases finB d i <;> cases finB d k <;> rfl
          rw [hv]
          have hkl : k < (rowL (neM d) d.next.length i).length := by rw [rowL_len]; exact hkn
          have z1 : ¬ (0 = 11 + i) := by omega
          have z2 : ¬ (10 = 11 + i) := by omega
          refine ⟨hkn, rw_.set k (neM d i k), ⟨by simpa using h1, ?_⟩, absRow2 (by omega) rfl (by simp [Z4e, f0, z1]) (by simp [Z4e, f10, z2]) (by simp [Z4e, List.map_set, encB]) (fun j hj => ?_) ?_⟩
          · rw [take_setB _ _ _ (by omega), h2, List.take_succ_eq_append_getElem hkl, rowL_at]
          · have z3 : ¬ (j = i) := by omega
            simp [Z4e, z3, fr j hj]
          · simp only [fA, oA, apA]
            simp [RenL_snoc, RenL.cl, RenV.cl, Z2r, Z2o, Z2s, Z2t, Z2p, Z2v, Z2u, Z2q, Z2w, Z2x, Z1d, Z1c, Z1b, Z19, Z18, Z1a, Z1e, Z52, Z4v, Z4z, Z3y, Z51, Z50, Z3z, Z1p, Z1q, Z1x, Z1v, Z1w, Z1u, Z1t, Z1s, Z1r, Z44, Z43, Z42, Z4e, Z4f, Z22, Z23, Z3d, Z3e, Z27, Z26, vV_t, vV_f, vB_t, vB_f, encI, encB]
            exact ⟨by simp [idO], by simp [idO]⟩
        · simp [AWb_seq, Z0m, Z0n, Z0j, Z0k, Z0r, Z0l, Z0p, Z0q, Z0o, Z21, Z20, Z22, Z23, Z3d, Z3e, Z3a, vIdx, Z4x, Z4w, Z4y, vApp, Z4u, Z3u, Z11, Z10, Z0z, Z0x, Z0w, Z0y, Z17, Z16, Z15, Z13, Z12, Z14, Z2c, Z2d, Z2a, Z2n, Z31, Z30, Z07, Z08, Z06, Z01, Z02, Z00, Z04, Z05, Z03, Z1z, Z1y, Z46, Z48, Z47, Z45, Z1n, Z1o, Z1m, Z3n, Z3k, Z3m, Z3l, Z3o, Z1l, Z29, Z32, Z3x, Z1i, Z1j, Z1k, Z3v, Z3w, Z1g, Z28, Z1h, Z3i, Z3f, Z3h, Z3g, Z3j, Z41, Z40, Z0t, Z0u, Z0v, Z0s, Z1f, Z4c, Z4b, Z4d, Z4a, Z49, ex, Z43, Z42, ev_t, ev_c, Z27, Z26, Z4e, Z4f, Z2m, Z2l, Z2f, Z2j, Z2k, Z2g, Z2h, Z2i, putc, exBslice, lfill, exField, exIdxV, exIdxP, exBox, exAlloc, Z3b, Z3c, exStore, exFieldA, Z34, Z33, Z39, Z38, exPick, exUn, exBeq, exMM, exSeq, seqGo, exExt, binV, intOp, subc, Z4s, Z4r, Z4p, Z4q, Z4n, Z4l, Z4m, Z4o, Z4i, Z4j, Z4g, Z4t, S0, encI, encB, Z4k, Z2e, Z25, Z4h, Z2b, Z24, Z36, Z37, Z35, Z3s, Z3t, Z3r, Z3p, Z3q, idxT_Bs, fA, oA, apA, hGF, f0, f10, fn, fr, hkn, hlt, hpl1, hpi, h1]
          rw [wrap_in _ (by omega)]
          have hrw : rw_ = rowL (neM d) d.next.length i := by
            have hke : k = d.next.length := by omega
            rw [hke, List.take_of_length_le (by omega), List.take_of_length_le (by rw [rowL_len]; exact Nat.le_refl _)] at h2
            exact h2
          refine ⟨hlt, (), trivial, absGrid (n := d.next.length) (m := i + 1) (M := neM d) (by omega) f0 f10 (fun j hj => ?_) ?_⟩
          · by_cases hji : j = i
            · subst hji; rw [← hrw]; exact fn
            · exact fr j (by omega)
          · simp only [oA, apA]
            simp [RenL_snoc, RenL.cl, RenV.cl, Z2r, Z2o, Z2s, Z2t, Z2p, Z2v, Z2u, Z2q, Z2w, Z2x, Z1d, Z1c, Z1b, Z19, Z18, Z1a, Z1e, Z52, Z4v, Z4z, Z3y, Z51, Z50, Z3z, Z1p, Z1q, Z1x, Z1v, Z1w, Z1u, Z1t, Z1s, Z1r, Z44, Z43, Z42, Z4e, Z4f, Z22, Z23, Z3d, Z3e, Z27, Z26, vV_t, vV_f, vB_t, vB_f, encI, encB]
            exact ⟨by simp [idO], by simp [idO]⟩
    · have hie : i = d.next.length := by omega
      subst hie
      simp [AWb_seq, Z0m, Z0n, Z0j, Z0k, Z0r, Z0l, Z0p, Z0q, Z0o, Z21, Z20, Z22, Z23, Z3d, Z3e, Z3a, vIdx, Z4x, Z4w, Z4y, vApp, Z4u, Z3u, Z11, Z10, Z0z, Z0x, Z0w, Z0y, Z17, Z16, Z15, Z13, Z12, Z14, Z2c, Z2d, Z2a, Z2n, Z31, Z30, Z07, Z08, Z06, Z01, Z02, Z00, Z04, Z05, Z03, Z1z, Z1y, Z46, Z48, Z47, Z45, Z1n, Z1o, Z1m, Z3n, Z3k, Z3m, Z3l, Z3o, Z1l, Z29, Z32, Z3x, Z1i, Z1j, Z1k, Z3v, Z3w, Z1g, Z28, Z1h, Z3i, Z3f, Z3h, Z3g, Z3j, Z41, Z40, Z0t, Z0u, Z0v, Z0s, Z1f, Z4c, Z4b, Z4d, Z4a, Z49, ex, Z43, Z42, ev_t, ev_c, Z27, Z26, Z4e, Z4f, Z2m, Z2l, Z2f, Z2j, Z2k, Z2g, Z2h, Z2i, putc, exBslice, lfill, exField, exIdxV, exIdxP, exBox, exAlloc, Z3b, Z3c, exStore, exFieldA, Z34, Z33, Z39, Z38, exPick, exUn, exBeq, exMM, exSeq, seqGo, exExt, binV, intOp, subc, Z4s, Z4r, Z4p, Z4q, Z4n, Z4l, Z4m, Z4o, Z4i, Z4j, Z4g, Z4t, S0, encI, encB, Z4k, Z2e, Z25, Z4h, Z2b, Z24, Z36, Z37, Z35, Z3s, Z3t, Z3r, Z3p, Z3q, idxT_Bs, oA, oG, apA, c_ap_rest]
      refine rows_ok R (neM_ok d) ?_ ?_
      · refine absGrid (n := d.next.length) (m := d.next.length) (M := neM d) (by omega) (apG_0 d d.next.length d.next.length (neM d)) (apG_10 d d.next.length d.next.length (neM d)) (fun j hj => apG_r d (neM d) hj) ?_
        simp only [wA, apA]
        simp [RenL_snoc, RenL.cl, RenV.cl, Z2r, Z2o, Z2s, Z2t, Z2p, Z2v, Z2u, Z2q, Z2w, Z2x, Z1d, Z1c, Z1b, Z19, Z18, Z1a, Z1e, Z52, Z4v, Z4z, Z3y, Z51, Z50, Z3z, Z1p, Z1q, Z1x, Z1v, Z1w, Z1u, Z1t, Z1s, Z1r, Z44, Z43, Z42, Z4e, Z4f, Z22, Z23, Z3d, Z3e, Z27, Z26, vV_t, vV_f, vB_t, vB_f, encI, encB]
        exact ⟨by simp [idO], by simp [idO]⟩
      · intro M a S hM hcl ha hS
        obtain ⟨N, g⟩ := S
        simp only at hS
        subst hS
        simp [AWb_seq, Z0m, Z0n, Z0j, Z0k, Z0r, Z0l, Z0p, Z0q, Z0o, Z21, Z20, Z22, Z23, Z3d, Z3e, Z3a, vIdx, Z4x, Z4w, Z4y, vApp, Z4u, Z3u, Z11, Z10, Z0z, Z0x, Z0w, Z0y, Z17, Z16, Z15, Z13, Z12, Z14, Z2c, Z2d, Z2a, Z2n, Z31, Z30, Z07, Z08, Z06, Z01, Z02, Z00, Z04, Z05, Z03, Z1z, Z1y, Z46, Z48, Z47, Z45, Z1n, Z1o, Z1m, Z3n, Z3k, Z3m, Z3l, Z3o, Z1l, Z29, Z32, Z3x, Z1i, Z1j, Z1k, Z3v, Z3w, Z1g, Z28, Z1h, Z3i, Z3f, Z3h, Z3g, Z3j, Z41, Z40, Z0t, Z0u, Z0v, Z0s, Z1f, Z4c, Z4b, Z4d, Z4a, Z49, ex, Z43, Z42, ev_t, ev_c, Z27, Z26, Z4e, Z4f, Z2m, Z2l, Z2f, Z2j, Z2k, Z2g, Z2h, Z2i, putc, exBslice, lfill, exField, exIdxV, exIdxP, exBox, exAlloc, Z3b, Z3c, exStore, exFieldA, Z34, Z33, Z39, Z38, exPick, exUn, exBeq, exMM, exSeq, seqGo, exExt, binV, intOp, subc, Z4s, Z4r, Z4p, Z4q, Z4n, Z4l, Z4m, Z4o, Z4i, Z4j, Z4g, Z4t, S0, encI, encB, Z4k, Z2e, Z25, Z4h, Z2b, Z24, Z36, Z37, Z35, Z3s, Z3t, Z3r, Z3p, Z3q, idxT_Bs, ha]
        refine .own 10 0 d.next.length 1 (ptrsL d.next.length d.next.length) _ (apG_10 d _ _ M) (by simp [ptrsL]) (by simp [apM]) fun i h1 h2 => ?_
        simp only [List.drop_zero] at h1 ⊢
        have hi : i < d.next.length := by simpa [apM] using h2
        simp only [List.getElem_take, ptrsL_g, List.getElem_map]
        have hrow : (apM (classesD d) d.next.length)[i]'(by rw [apM_len]; exact hi) = rowL M d.next.length i := by
          simp only [apM, List.getElem_map, List.getElem_range]
          apply List.ext_getElem
          · rw [apRow_len, rowL_len]
          · intro k h3 h4
            have hk : k < d.next.length := by rw [rowL_len] at h4; exact h4
            rw [rowL_at, clp_cls R hM hcl C hi hk]
            simp [apRow, clsN]
        rw [hrow]
        refine .own (11 + i) 0 d.next.length 1 _ _ (apG_r d M hi) (by simp [rowL]) (by simp [rowL]) fun j h3 h4 => ?_
        simp only [List.drop_zero, List.getElem_take]
        exact .closed _ (Z18 _ _ (List.getElem_mem _))
end Go.Rf

