import Derived.Test.YtgehkmifnjldfaaRfK3
/- Own work: the net, the other way round, as the program makes it. -/
set_option linter.unusedVariables false
set_option linter.unusedSimpArgs false
namespace Go.Rf
open Go.RowKit
attribute [local simp] Z0h Z0c Z0d Z09 Z0a Z0i Z0b Z0f Z0g Z2z Z2y Z07 Z08 Z06 Z01 Z02 Z00 Z04 Z05 Z03 Z1z Z1y Z46 Z48 Z47 Z45 Z1n Z1o Z1m Z3n Z3k Z3m Z3l Z3o Z1l Z29 Z32 Z3x Z1i Z1j Z1k Z3v Z3w Z1g Z28 Z1h Z3i Z3f Z3h Z3g Z3j Z41 Z40 Z0t Z0u Z0v Z0s Z1f Z4c Z4b Z4d Z4a Z49 ex Z43 Z42 ev_t ev_c Z27 Z26 Z4e Z4f Z2m Z2l Z2f Z2j Z2k Z2g Z2h Z2i putc exBslice lfill exField exIdxV exIdxP exBox exAlloc exLoad exStore exFieldA exIdxA exLen exPick exUn exBeq exMM exSeq seqGo exExt binV intOp subc AV.solid S0 encI encB

def c_bt_in : AC :=
  (.block 2 (.loop (.seq (.reg none [
        ⟨(some 35), .bin .lss (.t 34) (.t 33), none, none⟩])
       (.seq (.cond (.t 35) .skip (.exit 2))
       (.seq (.block 3 (.seq (.reg none [
         ⟨(some 36), .idxA 1 (.t 32) (.t 34), none, none⟩,
         ⟨(some 37), .load none (.t 36), none, none⟩,
         ⟨(some 8), .mv (.t 37), none, none⟩])
        (.seq (.reg none [
         ⟨(some 38), .mv (.t 5), none, none⟩,
         ⟨(some 39), .bin .gtr (.t 38) (.c (.v (.int .i64 0))), none, none⟩])
        (.cond (.t 39) (.reg (some [[], [], [], [], [], [], [], [], [], [], [false, false, false, false, false, false, false, true, true, true]]) [
          ⟨(some 40), .fieldA 2 (.t 4), none, none⟩,
          ⟨(some 41), .load none (.t 40), none, none⟩,
          ⟨(some 42), .mv (.t 8), none, none⟩,
          ⟨(some 43), .fieldA 2 (.t 4), none, none⟩,
          ⟨(some 44), .load none (.t 43), none, none⟩,
          ⟨(some 45), .mv (.t 8), none, none⟩,
          ⟨(some 46), .idxA 1 (.t 44) (.t 45), none, none⟩,
          ⟨(some 47), .load none (.t 46), none, none⟩,
          ⟨(some 48), .mv (.t 5), none, none⟩,
          ⟨(some 49), .bslice 1 1 (.v (.int .i64 0)) [(0, (.t 48))], none, none⟩,
          ⟨(some 50), .app 1 8 (.t 47) (.t 49), none, none⟩,
          ⟨(some 51), .idxA 1 (.t 41) (.t 42), none, none⟩,
          ⟨none, .store 1 (.t 51) (.t 50), none, none⟩]) .skip))))
       (.reg none [
        ⟨(some 52), .bin .add (.t 34) (.c (.v (.int .i64 1))), none, none⟩,
        ⟨(some 34), .mv (.t 52), none, none⟩]))))))
def c_bt_out : AC :=
  (.block 0 (.loop (.seq (.reg none [
     ⟨(some 28), .bin .lss (.t 27) (.t 26), none, none⟩])
    (.seq (.cond (.t 28) .skip (.exit 0))
    (.seq (.block 1 (.seq (.reg none [
      ⟨(some 29), .mv (.t 27), none, none⟩,
      ⟨(some 30), .idxA 1 (.t 25) (.t 27), none, none⟩,
      ⟨(some 31), .load none (.t 30), none, none⟩,
      ⟨(some 5), .mv (.t 29), none, none⟩,
      ⟨(some 6), .mv (.t 31), none, none⟩])
     (.seq (.reg none [
      ⟨(some 32), .mv (.t 6), none, none⟩,
      ⟨(some 33), .len (.t 32), none, none⟩,
      ⟨(some 34), .mv (.c (.v (.int .i64 0))), none, none⟩])
     c_bt_in)))
    (.reg none [
     ⟨(some 53), .bin .add (.t 27) (.c (.v (.int .i64 1))), none, none⟩,
     ⟨(some 27), .mv (.t 53), none, none⟩]))))))
def c_bt_last : AC :=
  (.block 4 (.loop (.seq (.reg none [
     ⟨(some 58), .bin .lss (.t 57) (.t 56), none, none⟩])
    (.seq (.cond (.t 58) .skip (.exit 4))
    (.seq (.block 5 (.seq (.reg none [
      ⟨(some 59), .idxA 1 (.t 55) (.t 57), none, none⟩,
      ⟨(some 60), .load none (.t 59), none, none⟩,
      ⟨(some 10), .mv (.t 60), none, none⟩])
     (.seq (.reg none [
      ⟨(some 61), .mv (.t 10), none, none⟩,
      ⟨(some 62), .bin .gtr (.t 61) (.c (.v (.int .i64 0))), none, none⟩])
     (.cond (.t 62) (.reg (some [[], [], [], [], [], [], [], [], [false, false, false, false, false, false, true, true]]) [
       ⟨(some 63), .fieldA 2 (.t 4), none, none⟩,
       ⟨(some 64), .load none (.t 63), none, none⟩,
       ⟨(some 65), .fieldA 2 (.t 4), none, none⟩,
       ⟨(some 66), .load none (.t 65), none, none⟩,
       ⟨(some 67), .idxA 1 (.t 66) (.c (.v (.int .i64 0))), none, none⟩,
       ⟨(some 68), .load none (.t 67), none, none⟩,
       ⟨(some 69), .mv (.t 10), none, none⟩,
       ⟨(some 70), .bslice 1 1 (.v (.int .i64 0)) [(0, (.t 69))], none, none⟩,
       ⟨(some 71), .app 1 8 (.t 68) (.t 70), none, none⟩,
       ⟨(some 72), .idxA 1 (.t 64) (.c (.v (.int .i64 0))), none, none⟩,
       ⟨none, .store 1 (.t 72) (.t 71), none, none⟩]) (.reg none [
       ⟨(some 73), .fieldA 3 (.t 4), none, none⟩,
       ⟨(some 74), .load none (.t 73), none, none⟩,
       ⟨(some 75), .bslice 1 1 (.v (.int .i64 0)) [(0, (.c (.v (.int .i64 0))))], none, none⟩,
       ⟨(some 76), .app 1 8 (.t 74) (.t 75), none, none⟩,
       ⟨(some 77), .fieldA 3 (.t 4), none, none⟩,
       ⟨none, .store 1 (.t 77) (.t 76), none, none⟩])))))
    (.reg none [
     ⟨(some 78), .bin .add (.t 57) (.c (.v (.int .i64 1))), none, none⟩,
     ⟨(some 57), .mv (.t 78), none, none⟩]))))))
def c_bt_ret : AC :=
  (.seq (.reg none [
   ⟨(some 87), .load (some 4) (.t 4), none, none⟩,
   ⟨none, .store 4 (.t 2) (.t 87), none, none⟩,
   ⟨(some 3), .mv (.c (.v (.int .i64 0))), none, none⟩])
  .ret)
def c_bt_end : AC :=
  (.seq (.reg (some []) [
   ⟨(some 79), .fieldA 3 (.t 4), none, none⟩,
   ⟨(some 80), .load none (.t 79), none, none⟩,
   ⟨(some 81), .fieldA 2 (.t 1), none, none⟩,
   ⟨(some 82), .load none (.t 81), none, none⟩,
   ⟨(some 83), .idxA 1 (.t 82) (.c (.v (.int .i64 0))), none, none⟩,
   ⟨(some 84), .load none (.t 83), none, none⟩,
   ⟨(some 85), .app 1 8 (.t 80) (.t 84), none, none⟩,
   ⟨(some 86), .fieldA 3 (.t 4), none, none⟩,
   ⟨none, .store 1 (.t 86) (.t 85), none, none⟩])
  c_bt_ret)
def c_back_Turn (f_net_Right : FuncId) : AC :=
  (.seq (.reg none [
   ⟨(some 1), .box 4 (.t 0), none, none⟩,
   ⟨(some 2), .alloc (.agg [(.v (.int .i64 0)), (.sl true []), (.sl true []), (.sl true [])]) 4, none, none⟩,
   ⟨(some 3), .mv (.c (.v (.int .i64 0))), none, none⟩])
  (.seq (.seq (.reg none [
   ⟨(some 11), .load (some 4) (.t 1), none, none⟩,
   ⟨(some 12), .mv (.c .junk), none, (some ((.c (.clo f_net_Right [] [])), [(.t 11)]))⟩,
   ⟨(some 13), .un .not (.t 12), none, none⟩])
  (.cond (.t 13) (.seq (.reg none [
    ⟨(some 14), .build (.agg [(.v (.int .i64 0)), (.sl true []), (.sl true []), (.sl true [])]) [] [], none, none⟩,
    ⟨none, .store 4 (.t 2) (.t 14), none, none⟩,
    ⟨(some 3), .mv (.c (.v (.int .i64 1))), none, none⟩])
   .ret) .skip))
  (.seq (.reg (some [[], [], [], [], [], [], [], [false, false, false, true, true, true, true], [], [true, true, true, true, true, true, true, true, true]]) [
   ⟨(some 15), .fieldA 0 (.t 1), none, none⟩,
   ⟨(some 16), .load none (.t 15), none, none⟩,
   ⟨(some 17), .fieldA 1 (.t 1), none, none⟩,
   ⟨(some 18), .load none (.t 17), none, none⟩,
   ⟨(some 19), .fieldA 1 (.t 1), none, none⟩,
   ⟨(some 20), .load none (.t 19), none, none⟩,
   ⟨(some 21), .len (.t 20), none, none⟩,
   ⟨(some 22), .mks 1 24 (.sl true []) (.t 21) (.t 21), none, none⟩,
   ⟨(some 23), .build (.agg [(.v (.int .i64 0)), (.sl true []), (.sl true []), (.sl true [])]) [(0, 1), (1, 1), (2, 1)] [(0, (.t 16)), (1, (.t 18)), (2, (.t 22))], none, none⟩,
   ⟨(some 4), .alloc (.agg [(.v (.int .i64 0)), (.sl true []), (.sl true []), (.sl true [])]) 4, none, none⟩,
   ⟨none, .store 4 (.t 4) (.t 23), none, none⟩])
  (.seq (.seq (.reg none [
   ⟨(some 24), .fieldA 2 (.t 1), none, none⟩,
   ⟨(some 25), .load none (.t 24), none, none⟩,
   ⟨(some 26), .len (.t 25), none, none⟩,
   ⟨(some 27), .mv (.c (.v (.int .i64 0))), none, none⟩])
  c_bt_out)
  (.seq (.seq (.reg none [
   ⟨(some 54), .fieldA 3 (.t 1), none, none⟩,
   ⟨(some 55), .load none (.t 54), none, none⟩,
   ⟨(some 56), .len (.t 55), none, none⟩,
   ⟨(some 57), .mv (.c (.v (.int .i64 0))), none, none⟩])
  c_bt_last)
  c_bt_end)))))
/-- What row t holds when the rows before i, and j of row i, have been gone through. -/
def bw (n : Net) (i j t : Nat) : List Int := ((List.range i).filter fun k => decide (1 ≤ k) && (n.follow.getD k []).contains (t : Int)).map Int.ofNat ++ (if (decide (1 ≤ i) && ((n.follow.getD i []).take j).contains (t : Int)) = true then [(i : Int)] else [])
def bwR (n : Net) (i j : Nat) : List (List Int) := (List.range n.by_.length).map (bw n i j)
theorem bwR_len (n : Net) (i j : Nat) : (bwR n i j).length = n.by_.length := by simp [bwR]
theorem bwR_get (n : Net) (i j t : Nat) (h : t < (bwR n i j).length) : (bwR n i j)[t] = bw n i j t := by simp [bwR]
theorem bw_len (n : Net) (i j t : Nat) : (bw n i j t).length ≤ i + 1 := by
  unfold bw
  rw [List.length_append, List.length_map]
  have := List.length_filter_le (fun k => decide (1 ≤ k) && (n.follow.getD k []).contains (t : Int)) (List.range i)
  simp only [List.length_range] at this
  split <;> simp only [List.length_cons, List.length_nil] <;> omega
theorem bwR_zero (n : Net) : bwR n 0 0 = List.replicate n.by_.length [] := by
  refine List.ext_getElem (by simp [bwR]) (fun t h1 h2 => ?_)
  rw [bwR_get]
  simp [bw]
theorem bwR_next (n : Net) {i m : Nat} (hm : (n.follow.getD i []).length ≤ m) : bwR n (i + 1) 0 = bwR n i m := by
  refine List.ext_getElem (by simp [bwR]) (fun t h1 h2 => ?_)
  rw [bwR_get, bwR_get]
  unfold bw
  rw [List.range_succ, List.filter_append, List.map_append, List.take_of_length_le hm]
  have e : (decide (1 ≤ i + 1) && ((n.follow.getD (i + 1) []).take 0).contains (t : Int)) = false := by simp
  rw [e]
  simp only [Bool.false_eq_true, if_false, List.append_nil]
  congr 1
  by_cases h : (decide (1 ≤ i) && (n.follow.getD i []).contains (t : Int)) = true
  · rw [if_pos h, List.filter_cons, if_pos h]; rfl
  · rw [if_neg h, List.filter_cons, if_neg h]; rfl
theorem take_succ_contains {l : List Int} {j : Nat} (h : j < l.length) (x : Int) : (l.take (j + 1)).contains x = ((l.take j).contains x || decide (x = l[j])) := by
  rw [List.take_add_one, List.getElem?_eq_getElem h]
  rw [Bool.eq_iff_iff]
  simp only [List.contains_iff_mem, Bool.or_eq_true, decide_eq_true_eq, List.mem_append, Option.toList_some, List.mem_singleton]
theorem bwR_step0 (n : Net) (j : Nat) : bwR n 0 j = bwR n 0 0 := by
  refine List.ext_getElem (by simp [bwR]) (fun t h1 h2 => ?_)
  rw [bwR_get, bwR_get]; simp [bw]
theorem take_not {l : List Int} (hl : l.Pairwise (· < ·)) {j : Nat} (h : j < l.length) : l[j] ∉ l.take j := by
  intro hm
  obtain ⟨k, hk, e⟩ := List.getElem_of_mem hm
  simp only [List.length_take] at hk
  rw [List.getElem_take] at e
  have := List.pairwise_iff_getElem.mp hl k j (by omega) h (by omega)
  omega
theorem bwR_step (n : Net) {i j t0 : Nat} (hi : 1 ≤ i) (hj : j < (n.follow.getD i []).length) (hp : (n.follow.getD i []).Pairwise (· < ·)) (ht : (n.follow.getD i [])[j] = (t0 : Int)) : bwR n i (j + 1) = (bwR n i j).set t0 (bw n i j t0 ++ [(i : Int)]) := by
  refine List.ext_getElem (by simp [bwR]) (fun t h1 h2 => ?_)
  rw [List.getElem_set, bwR_get, bwR_get]
  have h3 := take_succ_contains hj (t : Int)
  rw [ht] at h3
  unfold bw
  rw [h3]
  by_cases e : t0 = t
  · subst e
    have h4 : ((n.follow.getD i []).take j).contains (t0 : Int) = false := by
      have := take_not hp hj
      rw [ht] at this
      simpa using this
    rw [if_pos rfl, h4]
    simp [hi]
  · have h5 : decide ((t : Int) = (t0 : Int)) = false := by simp; omega
    rw [if_neg e, h5, Bool.or_false]
structure BtS (n : Net) (R : List (List Int)) (lst : List Int) (f : AF) (S : St) : Prop where
  e1 : f 1 = .ptr 0 0 0
  e2 : f 2 = .ptr 1 0 0
  e4 : f 4 = .ptr 15 0 0
  g0 : S.g 0 = some (.arr 4 [encNet n])
  g1 : S.g 1 = some (.arr 4 [zNet])
  ex : ∃ LV bv, S.g 15 = some (.arr 4 [.agg [encI n.signs, encIss n.by_, .own 13 0 n.by_.length, LV]]) ∧ S.g 13 = some (.arr 1 bv) ∧ Rows S.g S.n [0, 1, 13, 15] (LV :: bv) (lst :: R)
  n : 16 ≤ S.n
theorem BtS.same {n : Net} {R : List (List Int)} {lst : List Int} {f f' : AF} {S S' : St} (h : BtS n R lst f S) (hf : ∀ j, j = 1 ∨ j = 2 ∨ j = 4 → f' j = f j) (hg : S'.g = S.g) (hn : S.n ≤ S'.n) : BtS n R lst f' S' := by
  obtain ⟨LV, bv, h1, h2, h3⟩ := h.ex
  exact ⟨by rw [hf _ (by simp)]; exact h.e1, by rw [hf _ (by simp)]; exact h.e2, by rw [hf _ (by simp)]; exact h.e4, by rw [hg]; exact h.g0, by rw [hg]; exact h.g1, ⟨LV, bv, by rw [hg]; exact h1, by rw [hg]; exact h2, h3.frame hn (fun i _ _ => by rw [hg])⟩, Nat.le_trans h.n hn⟩
theorem BtS.grow {n : Net} {R : List (List Int)} {lst : List Int} {f f' : AF} {S : St} (h : BtS n R lst f S) {LV : AV} {bv : List AV} (g15 : S.g 15 = some (.arr 4 [.agg [encI n.signs, encIss n.by_, .own 13 0 n.by_.length, LV]])) (rows : Rows S.g S.n [0, 1, 13, 15] (LV :: bv) (lst :: R))
    {t : Nat} (ht : t < bv.length) (ht' : t < R.length) (x : Int) {m nid k : Nat} (h1 : S.n ≤ nid) (h2 : nid < m) (h3 : m ≤ k) (hf : ∀ j, j = 1 ∨ j = 2 ∨ j = 4 → f' j = f j) :
    BtS n (R.set t (R[t] ++ [x])) lst f' ⟨k, (((St.without ⟨m, S.g⟩ bv[t]).set nid (some (.arr 1 (R[t].map encI ++ [encI x])))).set 13 (some (.arr 1 (bv.set t (.own nid 0 (R[t].length + 1)))))).g⟩ := by
  have hn := h.n
  have hav : ∀ j, j ∈ [0, 1, 15] → (((St.without ⟨m, S.g⟩ bv[t]).set nid (some (.arr 1 (R[t].map encI ++ [encI x])))).set 13 (some (.arr 1 (bv.set t (.own nid 0 (R[t].length + 1)))))).g j = S.g j := by
    intro j hj
    have hne : j ≠ 13 := by intro e; subst e; simp at hj
    have hne2 : j ≠ nid := by intro e; subst e; simp at hj; omega
    rw [Z4e, if_neg hne]
    exact rows.av (t := t + 1) (by simpa using ht) _ (by simp at hj ⊢; omega) hne2
  refine ⟨by rw [hf _ (by simp)]; exact h.e1, by rw [hf _ (by simp)]; exact h.e2, by rw [hf _ (by simp)]; exact h.e4, ?_, ?_, ⟨LV, bv.set t (.own nid 0 (R[t].length + 1)), ?_, by simp [Z4e], ?_⟩, by show 16 ≤ k; omega⟩
  · rw [← h.g0]; exact hav 0 (by simp)
  · rw [← h.g1]; exact hav 1 (by simp)
  · rw [← g15]; exact hav 15 (by simp)
  · have h4 := rows.app (t := t + 1) (m := m) (nid := nid) (by simpa using ht) (by simpa using ht') x h1 h2 (by simp; omega)
    simp only [List.getElem_cons_succ, List.set_cons_succ] at h4
    refine h4.frame (by show m ≤ k; exact h3) (fun i _ hi => ?_)
    rw [Z4e, if_neg (by intro e; subst e; simp at hi)]
def BtI (n : Net) (i : Nat) (row : List Int) (j : Nat) (f : AF) (S : St) : Prop := BtS n (bwR n i j) [] f S ∧ f 5 = encI i ∧ f 27 = encI i ∧ f 25 = encIss n.follow ∧ f 26 = encI n.follow.length ∧ f 32 = encIs row ∧ f 33 = encI row.length ∧ f 34 = encI j
theorem bt_in {P : Program} {n : Net} (R : RightN n) {i : Nat} {row : List Int} (hi : i < n.follow.length) (hr : n.follow[i] = row) {f : AF} {S : St} {Q : Exit → AF → St → Prop} (h : BtI n i row 0 f S) (hk : ∀ f' S', BtI n i row row.length f' S' → Q .normal f' S') : AW P c_bt_in Q f S := by
  have hfl := R.len
  have hn2 := R.n2
  have hrow := R.follow i hi
  rw [hr] at hrow
  have hgd : n.follow.getD i [] = row := by rw [List.getD_eq_getElem?_getD, List.getElem?_eq_getElem hi, hr]; rfl
  have hrl : row.length ≤ 301 := by have := follow_len R hi; rw [hr] at this; exact this
  simp [c_bt_in]
  refine AW_for row.length (BtI n i row) h ?_
  rintro j f S hj ⟨h, e5, e27, e25, e26, e32, e33, e34⟩
  have e1 := h.e1
  have e4 := h.e4
  by_cases hlt : j < row.length
  · have hat := hrow.2 _ (List.getElem_mem hlt)
    have hat0 : (0 : Int) ≤ row[j] := by omega
    have hat1 : (row[j]).toNat < n.by_.length := by omega
    by_cases hi0 : i = 0
    · subst hi0
      simp [e1, e4, e5, e27, e25, e26, e32, e33, e34, encIs, encIss, hlt]
      rw [wrap_in _ (by omega)]
      have hb : bwR n 0 (j + 1) = bwR n 0 j := (bwR_step0 n _).trans (bwR_step0 n _).symm
      refine ⟨hlt, ?_, ?_, ?_, ?_, ?_, ?_, ?_, ?_⟩
      · rw [hb]
        refine h.same (fun k hk => ?_) rfl (by show S.n ≤ _; simp; omega)
        rcases hk with rfl | rfl | rfl <;> simp [Z43]
      · simp [Z43, e5, encI]
      · simp [Z43, e27, encI]
      · simp [Z43, e25, encIss]
      · simp [Z43, e26, encI]
      · simp [Z43, e32, encIs]
      · simp [Z43, e33, encI]
      · simp [Z43, encI]
    · have hip : 0 < i := by omega
      obtain ⟨LV, bv, g15, g13, rows⟩ := h.ex
      have hvl : bv.length = n.by_.length := by have := rows.len; simpa [bwR] using this
      have htn : (row[j]).toNat < bv.length := by omega
      have htn2 : (row[j]).toNat < (bwR n i j).length := by rw [bwR_len]; omega
      have hv : Vec S.g bv[(row[j]).toNat] 1 (((bwR n i j)[(row[j]).toNat]).map encI) := rows.row ((row[j]).toNat + 1) (by simpa using htn) (by simpa using htn2)
      have hgb : bv[(row[j]).toNat]? = some bv[(row[j]).toNat] := List.getElem?_eq_getElem htn
      have hc := hv.cell
      have hs := hc.2
      simp only [AV.solid] at hs
      have hbl := bw_len n i j (row[j]).toNat
      have hget := bwR_get n i j (row[j]).toNat htn2
      have hlv := (rows.row 0 (by simp) (by simp)).cell
      simp only [List.getElem_cons_zero] at hlv
      have hat3 : row[j] < (n.by_.length : Int) := hat.2
      simp [e1, e4, e5, e27, e25, e26, e32, e33, e34, encIs, encIss, hlt, hip, g15, g13, hat0, hat1, hat3, hvl, htn, hgb, hc.1, hs, hlv.1]
      have hap := fun (m nid : Nat) => Vec.appT (n := m) (nid := nid) (by_ := 8) (x := .v (.int .i64 (i : Int))) hv (cells_I _) (by simp [AV.cells]) (appOk8 (by rw [List.length_map, hget]; omega))
      have ho := fun k (hk : k ∈ (bv[(row[j]).toNat]).ids) => (rows.out bv[(row[j]).toNat] (by simp) k hk).2
      have hw : ∀ m, (St.without ⟨m, S.g⟩ bv[(row[j]).toNat]).g 13 = S.g 13 := fun m => without_g 13 (fun h0 => ho 13 h0 (by simp))
      rw [g13] at hw
      have n16 := h.n
      have h13 : ¬ S.n + 1 + 3 + 2 + 10 = 13 := by omega
      rw [hap]
      simp [e1, e4, e5, e27, e25, e26, e32, e33, e34, encIs, encIss, hlt, hip, g15, g13, hat0, hat1, hat3, hvl, htn, hgb, hc.1, hs, hlv.1, hw, h13]
      rw [wrap_in _ (by omega)]
      refine ⟨fun k hk15 => ?_, hlt, ?_, ?_, ?_, ?_, ?_, ?_, ?_, ?_⟩
      · rcases hk15 with h15 | h15
        · intro e; subst e; exact ho 15 h15 (by simp)
        · omega
      · have hst := bwR_step n (i := i) (j := j) (t0 := (row[j]).toNat) (by omega) (by rw [hgd]; exact hlt) (by rw [hgd]; exact hrow.1) (by simp only [hgd]; omega)
        rw [← hget] at hst
        rw [hst]
        refine h.grow g15 rows htn htn2 i (by omega) (by omega) (by simp [without_n]) (fun k hk => ?_)
        rcases hk with rfl | rfl | rfl <;> simp [Z43]
      · simp [Z43, e5, encI]
      · simp [Z43, e27, encI]
      · simp [Z43, e25, encIss]
      · simp [Z43, e26, encI]
      · simp [Z43, e32, encIs]
      · simp [Z43, e33, encI]
      · simp [Z43, encI]
  · have hje : j = row.length := by omega
    subst hje
    simp [e1, e4, e5, e27, e25, e26, e32, e33, e34, encIs, encIss, hlt]
    refine hk _ _ ⟨h.same (fun k hk => ?_) rfl (by show S.n ≤ _; simp), ?_, ?_, ?_, ?_, ?_, ?_, ?_⟩
    · rcases hk with rfl | rfl | rfl <;> simp [Z43]
    · simp [Z43, e5, encI]
    · simp [Z43, e27, encI]
    · simp [Z43, e25, encIss]
    · simp [Z43, e26, encI]
    · simp [Z43, e32, encIs]
    · simp [Z43, e33, encI]
    · simp [Z43, e34, encI]
theorem BtS.growL {n : Net} {R : List (List Int)} {lst : List Int} {f f' : AF} {S : St} (h : BtS n R lst f S) {LV : AV} {bv : List AV} (g13 : S.g 13 = some (.arr 1 bv)) (rows : Rows S.g S.n [0, 1, 13, 15] (LV :: bv) (lst :: R))
    (x : Int) {m nid k : Nat} (h1 : S.n ≤ nid) (h2 : nid < m) (h3 : m ≤ k) (hf : ∀ j, j = 1 ∨ j = 2 ∨ j = 4 → f' j = f j) :
    BtS n R (lst ++ [x]) f' ⟨k, (((St.without ⟨m, S.g⟩ LV).set nid (some (.arr 1 (lst.map encI ++ [encI x])))).set 15 (some (.arr 4 [.agg [encI n.signs, encIss n.by_, .own 13 0 n.by_.length, .own nid 0 (lst.length + 1)]]))).g⟩ := by
  have hn := h.n
  have hav : ∀ j, j ∈ [0, 1, 13] → (((St.without ⟨m, S.g⟩ LV).set nid (some (.arr 1 (lst.map encI ++ [encI x])))).set 15 (some (.arr 4 [.agg [encI n.signs, encIss n.by_, .own 13 0 n.by_.length, .own nid 0 (lst.length + 1)]]))).g j = S.g j := by
    intro j hj
    have hne : j ≠ 15 := by intro e; subst e; simp at hj
    have hne2 : j ≠ nid := by intro e; subst e; simp at hj; omega
    rw [Z4e, if_neg hne]
    exact rows.av (t := 0) (by simp) _ (by simp at hj ⊢; omega) hne2
  refine ⟨by rw [hf _ (by simp)]; exact h.e1, by rw [hf _ (by simp)]; exact h.e2, by rw [hf _ (by simp)]; exact h.e4, ?_, ?_, ⟨.own nid 0 (lst.length + 1), bv, by simp [Z4e], ?_, ?_⟩, by show 16 ≤ k; omega⟩
  · rw [← h.g0]; exact hav 0 (by simp)
  · rw [← h.g1]; exact hav 1 (by simp)
  · rw [← g13]; exact hav 13 (by simp)
  · have h4 := rows.app (t := 0) (m := m) (nid := nid) (by simp) (by simp) x h1 h2 (by simp; omega)
    simp only [List.getElem_cons_zero, List.set_cons_zero] at h4
    refine h4.frame (by show m ≤ k; exact h3) (fun i _ hi => ?_)
    rw [Z4e, if_neg (by intro e; subst e; simp at hi)]
def BtO (n : Net) (i : Nat) (f : AF) (S : St) : Prop := BtS n (bwR n i 0) [] f S ∧ f 27 = encI i ∧ f 25 = encIss n.follow ∧ f 26 = encI n.follow.length
theorem bt_out {P : Program} {n : Net} (R : RightN n) {f : AF} {S : St} {Q : Exit → AF → St → Prop} (h : BtO n 0 f S) (hk : ∀ f' S', BtO n n.follow.length f' S' → Q .normal f' S') : AW P c_bt_out Q f S := by
  have hfl := R.len
  have hn2 := R.n2
  simp [c_bt_out]
  refine AW_for n.follow.length (BtO n) h ?_
  rintro i f S hj ⟨h, e27, e25, e26⟩
  by_cases hlt : i < n.follow.length
  · have hgi : n.follow[i]? = some n.follow[i] := List.getElem?_eq_getElem hlt
    simp [e27, e25, e26, encIs, encIss, hlt, hgi]
    refine bt_in R hlt rfl ⟨h.same (fun k hk => ?_) rfl (by show S.n ≤ _; simp; omega), ?_, ?_, ?_, ?_, ?_, ?_, ?_⟩ ?_
    · rcases hk with rfl | rfl | rfl <;> simp [Z43]
    · simp [Z43, encI]
    · simp [Z43, e27, encI]
    · simp [Z43, e25, encIss]
    · simp [Z43, e26, encI]
    · simp [Z43, encIs]
    · simp [Z43, encI]
    · simp [Z43, encI]
    · rintro f2 S2 ⟨h2, e5, e27, e25, e26, e32, e33, e34⟩
      simp [e27, e25, e26, encIs, encIss, hlt]
      rw [wrap_in _ (by omega)]
      refine ⟨hlt, ?_, ?_, ?_, ?_⟩
      · rw [bwR_next n (i := i) (m := (n.follow[i]).length) (by rw [List.getD_eq_getElem?_getD, hgi]; simp)]
        refine h2.same (fun k hk => ?_) rfl (by show S2.n ≤ _; simp)
        rcases hk with rfl | rfl | rfl <;> simp [Z43]
      · simp [Z43, encI]
      · simp [Z43, e25, encIss]
      · simp [Z43, e26, encI]
  · have hje : i = n.follow.length := by omega
    subst hje
    simp [e27, e25, e26, encIs, encIss, hlt]
    refine hk _ _ ⟨h.same (fun k hk => ?_) rfl (by show S.n ≤ _; simp), ?_, ?_, ?_⟩
    · rcases hk with rfl | rfl | rfl <;> simp [Z43]
    · simp [Z43, e27, encI]
    · simp [Z43, e25, encIss]
    · simp [Z43, e26, encI]
def blR (n : Net) (j : Nat) : List (List Int) := (bwR n n.by_.length 0).set 0 ((n.last.take j).filter fun x => decide (0 < x))
def blL (n : Net) (j : Nat) : List Int := (n.last.take j).filter fun x => !decide (0 < x)
def BtL (n : Net) (j : Nat) (f : AF) (S : St) : Prop := BtS n (blR n j) (blL n j) f S ∧ f 57 = encI j ∧ f 55 = encIs n.last ∧ f 56 = encI n.last.length
theorem bt_last {P : Program} {n : Net} (R : RightN n) {f : AF} {S : St} {Q : Exit → AF → St → Prop} (h : BtL n 0 f S) (hk : ∀ f' S', BtL n n.last.length f' S' → Q .normal f' S') : AW P c_bt_last Q f S := by
  have hn1 := R.n1
  have hn2 := R.n2
  have hl := R.last
  have hll : n.last.length ≤ 301 := by
    have := pw_len hl.1 hl.2
    omega
  simp [c_bt_last]
  refine AW_for n.last.length (BtL n) h ?_
  rintro j f S hj ⟨h, e57, e55, e56⟩
  have e1 := h.e1
  have e4 := h.e4
  have n16 := h.n
  by_cases hlt : j < n.last.length
  · have hat := hl.2 _ (List.getElem_mem hlt)
    have hgi : n.last[j]? = some n.last[j] := List.getElem?_eq_getElem hlt
    have htk : n.last.take (j + 1) = n.last.take j ++ [n.last[j]] := by rw [List.take_add_one, hgi]; rfl
    have hll2 : ∀ p : Int → Bool, ((n.last.take j).filter p).length ≤ 301 := fun p => by
      have := List.length_filter_le p (n.last.take j)
      have : (n.last.take j).length ≤ j := by rw [List.length_take]; omega
      omega
    obtain ⟨LV, bv, g15, g13, rows⟩ := h.ex
    have hvl : bv.length = n.by_.length := by have := rows.len; simpa [blR, bwR] using this
    have hlv := (rows.row 0 (by simp) (by simp)).cell
    simp only [List.getElem_cons_zero] at hlv
    have hlvs := hlv.2
    simp only [AV.solid] at hlvs
    by_cases hp : 0 < n.last[j]
    · have htn : 0 < bv.length := by omega
      have htn2 : 0 < (blR n j).length := by simp [blR, bwR]; omega
      have hv : Vec S.g bv[0] 1 (((blR n j)[0]).map encI) := rows.row 1 (by simpa using htn) (by simpa using htn2)
      have hgb : bv[0]? = some bv[0] := List.getElem?_eq_getElem htn
      have hc := hv.cell
      have hs := hc.2
      simp only [AV.solid] at hs
      have hget : (blR n j)[0] = (n.last.take j).filter fun x => decide (0 < x) := by simp [blR]
      have hap := fun (m nid : Nat) => Vec.appT (n := m) (nid := nid) (by_ := 8) (x := .v (.int .i64 n.last[j])) hv (cells_I _) (by simp [AV.cells]) (appOk8 (by rw [List.length_map, hget]; have := hll2 (fun x => decide (0 < x)); omega))
      have ho := fun k (hk : k ∈ (bv[0]).ids) => (rows.out bv[0] (by simp) k hk).2
      have hw : ∀ m, (St.without ⟨m, S.g⟩ bv[0]).g 13 = S.g 13 := fun m => without_g 13 (fun h0 => ho 13 h0 (by simp))
      rw [g13] at hw
      have hn0 : 0 < n.by_.length := hn1
      have h13 : ¬ S.n + 1 + 3 + 2 + 8 = 13 := by omega
      simp [e1, e4, e57, e55, e56, encIs, encIss, hlt, hgi, hp, g15, g13, hvl, htn, hn0, hgb, hc.1, hs, hlv.1, hlvs]
      rw [hap]
      simp [e1, e4, e57, e55, e56, encIs, encIss, hlt, hgi, hp, g15, g13, hvl, htn, hn0, hgb, hc.1, hs, hlv.1, hlvs, hw, h13]
      rw [wrap_in _ (by omega)]
      refine ⟨fun k hk15 => ?_, hlt, ?_, ?_, ?_, ?_⟩
      · rcases hk15 with h15 | h15
        · intro e; subst e; exact ho 15 h15 (by simp)
        · omega
      · have hst : blR n (j + 1) = (blR n j).set 0 ((blR n j)[0] ++ [n.last[j]]) := by
          rw [hget]
          unfold blR
          rw [List.set_set, htk, List.filter_append]
          simp [hp]
        have hsl : blL n (j + 1) = blL n j := by
          unfold blL
          rw [htk, List.filter_append]
          simp [hp]
        rw [hst, hsl]
        refine h.grow g15 rows htn htn2 n.last[j] (by omega) (by omega) (by simp [without_n]) (fun k hk => ?_)
        rcases hk with rfl | rfl | rfl <;> simp [Z43]
      · simp [Z43, encI]
      · simp [Z43, e55, encIs]
      · simp [Z43, e56, encI]
    · have h0 : n.last[j] = 0 := by omega
      have hv : Vec S.g LV 1 ((blL n j).map encI) := rows.row 0 (by simp) (by simp)
      have hap := fun (m nid : Nat) => Vec.app (n := m) (nid := nid) (by_ := 8) (x := .v (.int .i64 0)) hv (cells_I _) (by simp [AV.cells]) (appOk8 (by rw [List.length_map]; have := hll2 (fun x => !decide (0 < x)); unfold blL; omega))
      have ho := fun k (hk : k ∈ LV.ids) => (rows.out LV (by simp) k hk).2
      have hw : ∀ m, (St.without ⟨m, S.g⟩ LV).g 15 = S.g 15 := fun m => without_g 15 (fun h0 => ho 15 h0 (by simp))
      rw [g15] at hw
      have h15 : ¬ S.n + 1 + 3 + 2 + 3 = 15 := by omega
      have h15' : ¬ S.n = 6 := by omega
      simp [e1, e4, e57, e55, e56, encIs, encIss, hlt, hgi, h0, g15, g13, hvl, hlv.1, hlvs]
      rw [hap]
      simp [e1, e4, e57, e55, e56, encIs, encIss, hlt, hgi, h0, g15, g13, hvl, hlv.1, hlvs, hw, h15, h15', encI]
      rw [wrap_in _ (by omega)]
      refine ⟨hlt, ?_, ?_, ?_, ?_⟩
      · have hst : blR n (j + 1) = blR n j := by
          unfold blR
          rw [htk, List.filter_append]
          simp [hp]
        have hsl : blL n (j + 1) = blL n j ++ [0] := by
          unfold blL
          rw [htk, List.filter_append, h0]
          simp
        rw [hst, hsl]
        refine h.growL g13 rows 0 (by omega) (by omega) (by simp [without_n]) (fun k hk => ?_)
        rcases hk with rfl | rfl | rfl <;> simp [Z43]
      · simp [Z43, encI]
      · simp [Z43, e55, encIs]
      · simp [Z43, e56, encI]
  · have hje : j = n.last.length := by omega
    subst hje
    simp [e57, e55, e56, encIs, encIss, hlt]
    refine hk _ _ ⟨h.same (fun k hk => ?_) rfl (by show S.n ≤ _; simp), ?_, ?_, ?_⟩
    · rcases hk with rfl | rfl | rfl <;> simp [Z43]
    · simp [Z43, e57, encI]
    · simp [Z43, e55, encIs]
    · simp [Z43, e56, encI]
theorem bt_ret {P : Program} {f : AF} {S : St} {LV : AV} {bv : List AV} (m : Net) (e2 : f 2 = .ptr 1 0 0) (e4 : f 4 = .ptr 15 0 0) (g1 : S.g 1 = some (.arr 4 [zNet]))
    (g15 : S.g 15 = some (.arr 4 [.agg [encI m.signs, encIss m.by_, .own 13 0 m.follow.length, LV]])) (g13 : S.g 13 = some (.arr 1 bv)) (rows : Rows S.g S.n [0, 1, 13, 15] (LV :: bv) (m.last :: m.follow)) :
    AW P c_bt_ret (RetC [.c 2 (some 4), .t 3] (FzK (.tup [encNet m, encI 0]))) f S := by
  have hcL := (rows.row 0 (by simp) (by simp)).cell
  simp only [List.getElem_cons_zero] at hcL
  have hsL := hcL.2
  simp only [AV.solid] at hsL
  simp only [zNet] at g1
  simp [c_bt_ret, e2, e4, g1, g15, encIss, hcL.1, hsL, RetC]
  refine ⟨[.agg [encI m.signs, encIss m.by_, .own 13 0 m.follow.length, LV], encI 0], by simp [evC, RV.ev, Z43, Z42, ev_c, ldC, Z4e, subc, encI, encIss, Z2f, Z2m, Z2l, Z2j, hcL.1, e2], ?_⟩
  have hgg : ∀ (x : Option Blk) (k : Nat), 1 ≠ k → (({ n := S.n + 3, g := S.g } : St).set 1 x).g k = S.g k := fun x k hk => by simp [Z4e, Ne.symm hk]
  have hbl : bv.length = m.follow.length := by have := rows.len; simpa using this
  have r2 := Rows.frame (n' := S.n + 3) (g' := (({ n := S.n + 3, g := S.g } : St).set 1 (some (Blk.arr 4 [AV.agg [AV.v (Value.int IntKind.i64 m.signs), AV.sl false (List.map encIs m.by_), .own 13 0 m.follow.length, LV]]))).g) rows (by omega) (fun j _ hj => hgg _ j (fun e => hj (by simp [← e])))
  have g13' := (hgg (some (Blk.arr 4 [AV.agg [AV.v (Value.int IntKind.i64 m.signs), AV.sl false (List.map encIs m.by_), .own 13 0 m.follow.length, LV]])) 13 (by omega)).trans g13
  show Fz _ (.tup [.agg [encI m.signs, encIss m.by_, .own 13 0 m.follow.length, LV], encI 0]) (.tup [encNet m, encI 0])
  refine .tup _ _ rfl (fun i a b => ?_)
  match i with
  | 0 =>
    refine .agg _ _ rfl (fun j c d => ?_)
    match j with
    | 0 => exact .closed _ (Z2r _)
    | 1 => exact .closed _ (Z2t _)
    | 2 =>
      refine (Vec.mk' (es := 1) (xs := bv) g13' hbl.symm).fzL (by simp [hbl]) (fun t h1 h2 => ?_)
      have h3 := r2.row (t + 1) (by simpa using h1) (by simp; omega)
      simp only [List.getElem_cons_succ] at h3
      simp only [List.getElem_map]
      exact h3.fz Z2r
    | 3 =>
      have h3 := r2.row 0 (by simp) (by simp)
      simp only [List.getElem_cons_zero] at h3
      exact h3.fz Z2r
    | j + 4 => exact absurd (show j + 4 < 4 from c) (by omega)
  | 1 => exact .closed _ (Z2r 0)
  | i + 2 => exact absurd (show i + 2 < 2 from a) (by omega)
theorem bt_end {P : Program} {n m : Net} (R : RightN n) {Rr : List (List Int)} {lst : List Int} {f : AF} {S : St} (h : BtS n Rr lst f S) (hl : lst.length ≤ 301) (hm1 : m.signs = n.signs) (hm2 : m.by_ = n.by_) (hm3 : m.follow = Rr) (hm4 : m.last = lst ++ n.follow.getD 0 []) (hm5 : Rr.length = n.by_.length) :
    AW P c_bt_end (RetC [.c 2 (some 4), .t 3] (FzK (.tup [encNet m, encI 0]))) f S := by
  have hfl := R.len
  have hn1 := R.n1
  have hf0 : 0 < n.follow.length := by omega
  have hff := follow_len R hf0
  have e1 := h.e1
  have e2 := h.e2
  have e4 := h.e4
  have g0 := h.g0
  have g1 := h.g1
  have n16 := h.n
  simp only [encNet, encIss] at g0
  obtain ⟨LV, bv, g15, g13, rows⟩ := h.ex
  have hv : Vec S.g LV 1 (lst.map encI) := rows.row 0 (by simp) (by simp)
  have hcL := hv.cell
  have hsL := hcL.2
  simp only [AV.solid] at hsL
  have ho := fun k (hk : k ∈ LV.ids) => (rows.out LV (by simp) k hk).2
  have hon := fun k (hk : k ∈ LV.ids) => (rows.out LV (by simp) k hk).1
  obtain ⟨v', S', hr, hv', hid, hfr, hn', hc'⟩ := Vec.appL (n := S.n + 9) (nid := S.n + 6) (by_ := 8) (t := false) (ys := (n.follow[0]).map encI) hv (cells_I _) (cells_I _) (by unfold appOk; simp; omega)
  have hs' := hv'.cell.2
  simp only [AV.solid] at hs'
  have g15' : S'.g 15 = S.g 15 := hfr 15 (fun h0 => ho 15 h0 (by simp)) (by omega)
  have g13' : S'.g 13 = S.g 13 := hfr 13 (fun h0 => ho 13 h0 (by simp)) (by omega)
  have g1' : S'.g 1 = S.g 1 := hfr 1 (fun h0 => ho 1 h0 (by simp)) (by omega)
  rw [g15] at g15'
  rw [g13] at g13'
  rw [g1] at g1'
  simp [c_bt_end, e1, e2, e4, g0, g1, g15, encIss, encIs, hcL.1, hsL, hf0, hr, g15', g1', hc', hs']
  refine bt_ret m (bv := bv) (LV := v') ?_ ?_ ?_ ?_ ?_ ?_
  · simp [Z43, e2]
  · simp [Z43, e4]
  · simp [Z4e, g1']
  · simp [Z4e, encI, encIss, hm1, hm2, hm3, hm5]
  · simp [Z4e, g13']
  · rw [hm3, hm4]
    have hfd : n.follow.getD 0 [] = n.follow[0] := by rw [List.getD_eq_getElem?_getD, List.getElem?_eq_getElem hf0]; rfl
    rw [hfd]
    have hup := rows.upd (t := 0) (v := v') (l := lst ++ n.follow[0]) (g' := S'.g) (n' := S'.n) (by simp) (by rw [List.map_append]; exact hv') (by omega) (fun j hj => ?_) (fun j h1 h2 h3 => hfr j h3 (by omega))
    · simp only [List.set_cons_zero] at hup
      refine hup.frame (by rw [Z4f]; exact Nat.le_refl _) (fun j h1 h2 => ?_)
      rw [Z4e, if_neg (by intro e; subst e; simp at h2)]
    · have := hid j hj
      subst this
      refine ⟨by omega, by simp; omega, .inr (by omega)⟩
theorem filter_last {l : List Int} {m : Nat} (h : RisesP l 0 m) : l.filter (fun x => decide (0 < x)) = ((List.range m).filter fun k : Nat => decide (1 ≤ k) && l.contains (k : Int)).map Int.ofNat := by
  refine pw_ext (h.1.filter _) ?_ (fun x => ?_)
  · rw [List.pairwise_map]
    refine (List.Pairwise.filter _ ?_)
    have := List.pairwise_lt_range (n := m)
    exact this.imp (fun {a b} h => by show (a : Int) < (b : Int); omega)
  · simp only [List.mem_filter, List.mem_map, List.mem_range, Bool.and_eq_true, decide_eq_true_eq, List.contains_iff_mem]
    constructor
    · rintro ⟨h1, h2⟩
      have h3 := h.2 x h1
      refine ⟨x.toNat, ⟨by omega, by omega, ?_⟩, by show ((x.toNat : Nat) : Int) = x; omega⟩
      rw [show ((x.toNat : Nat) : Int) = x by omega]; exact h1
    · rintro ⟨k, ⟨h1, h2, h3⟩, rfl⟩
      exact ⟨h3, by show (0 : Int) < (k : Int); omega⟩
theorem filter_zero : ∀ {l : List Int} {m : Int}, RisesP l 0 m → l.filter (fun x => !decide (0 < x)) = if l.contains 0 = true then [0] else [] := by
  intro l m h
  refine pw_ext (h.1.filter _) (by split <;> simp) (fun x => ?_)
  by_cases h0 : l.contains 0 = true
  · have h0' : (0 : Int) ∈ l := by simpa using h0
    rw [if_pos h0]
    simp only [List.mem_filter, List.mem_singleton, Bool.not_eq_true', decide_eq_false_iff_not]
    constructor
    · rintro ⟨h1, h2⟩; have := h.2 x h1; omega
    · rintro rfl; exact ⟨h0', by omega⟩
  · rw [if_neg h0]
    have h0' : ¬ (0 : Int) ∈ l := by simpa using h0
    simp only [List.mem_filter, List.not_mem_nil, iff_false, Bool.not_eq_true', decide_eq_false_iff_not]
    rintro ⟨h1, h2⟩
    have := h.2 x h1
    exact h0' (by rw [show (0 : Int) = x by omega]; exact h1)
theorem blR_turn {n : Net} (R : RightN n) : blR n n.last.length = (turnN n).follow := by
  have hfl := R.len
  have hn1 := R.n1
  refine List.ext_getElem (by simp [blR, bwR, turnN]) (fun t h1 h2 => ?_)
  have e : (turnN n).follow[t] = rowT n t n.by_.length := by simp [turnN]
  rw [e]
  have hbl : blR n n.last.length = (bwR n n.by_.length 0).set 0 (n.last.filter fun x => decide (0 < x)) := by unfold blR; rw [List.take_length]
  simp only [hbl]
  rw [List.getElem_set]
  have ht : t < n.by_.length := by simpa [turnN] using h2
  by_cases h0 : t = 0
  · subst h0
    rw [if_pos rfl, filter_last R.last]
    unfold rowT rowP
    simp
  · rw [if_neg (Ne.symm h0), bwR_get]
    unfold bw rowT rowP
    have hz : (decide (1 ≤ n.by_.length) && ((n.follow.getD n.by_.length []).take 0).contains (t : Int)) = false := by simp
    rw [hz]
    simp only [Bool.false_eq_true, if_false, List.append_nil, h0]
theorem back_Turn_body {P : Program} {fr : FuncId} (n : Net) (R0 : rightN n = true → RightN n) (hr : PureC P fr [encNet n] (encB (rightN n))) :
    AW P (c_back_Turn fr) (RetC [.c 2 (some 4), .t 3] (FzK (.tup [encNet (turnD n), encI (turnE n)]))) (argF [encNet n]) S0 := by
  have cn := cl_cons (closed_Net n) cl_nil
  have hr' := hr
  simp only [encNet, encI, encIss] at cn hr'
  cases hb : rightN n with
  | false =>
    rw [hb] at hr'
    have hE : turnE n = 1 := by simp [turnE, hb]
    have hD : turnD n = ⟨0, [], [], []⟩ := by simp [turnD, hb]
    rw [hE, hD]
    simp [c_back_Turn, encNet, encIss]
    refine CallR.pure hr' cn (Z2o _) ?_
    simp [exBuild, afill, RetC]
    refine ⟨[zNet, encI 1], by simp [evC, RV.ev, Z43, Z42, ev_c, ldC, Z4e, subc, encI, zNet, Z2f, Z2m, Z2l], ?_⟩
    refine .tup _ _ rfl (fun i a b => ?_)
    match i with
    | 0 =>
      refine .agg _ _ rfl (fun j c d => ?_)
      match j with
      | 0 => exact .closed _ (Z2r 0)
      | 1 => exact .loose true [] (.sl _ _ (by simp))
      | 2 => exact .loose true [] (.sl _ _ (by simp))
      | 3 => exact .loose true [] (.sl _ _ (by simp))
      | j + 4 => exact absurd (show j + 4 < 4 from c) (by omega)
    | 1 => exact .closed _ (Z2r 1)
    | i + 2 => exact absurd (show i + 2 < 2 from a) (by omega)
  | true =>
    rw [hb] at hr'
    have R := R0 hb
    have hE : turnE n = 0 := by simp [turnE, hb]
    have hD : turnD n = turnN n := by simp [turnD, hb]
    rw [hE, hD]
    have hfl := R.len
    have hn1 := R.n1
    have hn2 := R.n2
    have hn1' : (n.by_.length : Int) ≤ 301 := by omega
    simp [c_back_Turn, encNet, encIss]
    refine CallR.pure hr' cn (Z2o _) ?_
    have q1 : (24 : Int) * n.by_.length ≤ 281474976710656 := by omega
    have q2 : (n.by_.length : Int) ≤ 9223372036854775807 := by omega
    simp [exBuild, afill, exMks, q1, q2]
    refine bt_out R ⟨⟨?_, ?_, ?_, ?_, ?_, ⟨.sl true [], List.replicate n.by_.length (.sl true []), ?_, ?_, ?_⟩, ?_⟩, ?_, ?_, ?_⟩ ?_
    · simp [Z43]
    · simp [Z43]
    · simp [Z43]
    · simp [Z4e, encNet, encIss, encI]
    · simp [Z4e, zNet]
    · simp [Z4e, encI, encIss]
    · simp [Z4e]
    · rw [bwR_zero]
      exact Rows.init (n.by_.length + 1)
    · simp
    · simp [Z43, encI]
    · simp [Z43, encIss]
    · simp [Z43, encI]
    · rintro f S ⟨h, e27, e25, e26⟩
      have e1 := h.e1
      have g0 := h.g0
      simp only [encNet, encIss] at g0
      simp [e1, g0, encIs]
      refine bt_last R ⟨?_, ?_, ?_, ?_⟩ ?_
      · have hz : blR n 0 = bwR n n.follow.length 0 := by
          unfold blR
          rw [hfl]
          refine List.ext_getElem (by simp) (fun t h1 h2 => ?_)
          rw [List.getElem_set]
          by_cases h0 : 0 = t
          · subst h0
            rw [if_pos rfl, bwR_get]
            unfold bw
            have hnone : (List.range n.by_.length).filter (fun k => decide (1 ≤ k) && (n.follow.getD k []).contains ((0 : Nat) : Int)) = [] := by
              rw [List.filter_eq_nil_iff]
              intro k hk
              have hk2 : k < n.follow.length := by rw [hfl]; simpa using hk
              have hgd : n.follow.getD k [] = n.follow[k] := by rw [List.getD_eq_getElem?_getD, List.getElem?_eq_getElem hk2]; rfl
              rw [hgd]
              simp only [Bool.and_eq_true, not_and, List.contains_iff_mem]
              intro _ hm
              have := (R.follow k hk2).2 _ hm
              omega
            rw [hnone]
            simp
          · rw [if_neg h0]
        have hz2 : blL n 0 = [] := by simp [blL]
        rw [hz, hz2]
        refine h.same (fun k hk => ?_) rfl (by show S.n ≤ _; simp)
        rcases hk with rfl | rfl | rfl <;> simp [Z43]
      · simp [Z43, encI]
      · simp [Z43, encIs]
      · simp [Z43, encI]
      · rintro f2 S2 ⟨h2, e57, e55, e56⟩
        simp
        have hbt := blR_turn R
        have hlz : blL n n.last.length = if n.last.contains 0 = true then [0] else [] := by unfold blL; rw [List.take_length]; exact filter_zero R.last
        rw [hbt] at h2
        refine bt_end (m := turnN n) R h2 ?_ rfl rfl rfl ?_ ?_
        · rw [hlz]; split <;> simp
        · rw [hlz]; rfl
        · simp [turnN]
end Go.Rf

