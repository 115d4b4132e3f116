import Derived.Test.YtgehkmifnjldfaaRfK4
import Derived.Test.YtgehkmifnjldfaaRfKl
/- Own work: what the net the other way round accepts. -/
set_option linter.unusedVariables false
set_option linter.unusedSimpArgs false
namespace Go.Rf
open Go.RowKit

theorem mem_rowT {n : Net} {i : Nat} {q : Int} : q ∈ rowT n i n.by_.length ↔ 1 ≤ q ∧ q < n.by_.length ∧ rowP n i q.toNat = true := by
  unfold rowT
  simp only [List.mem_map, List.mem_filter, List.mem_range, Bool.and_eq_true, decide_eq_true_eq]
  constructor
  · rintro ⟨k, ⟨h1, h2, h3⟩, rfl⟩
    refine ⟨by show (1 : Int) ≤ (k : Int); omega, by show (k : Int) < _; omega, ?_⟩
    show rowP n i ((k : Int).toNat) = true
    rw [Int.toNat_natCast]; exact h3
  · rintro ⟨h1, h2, h3⟩
    exact ⟨q.toNat, ⟨by omega, by omega, h3⟩, by show ((q.toNat : Nat) : Int) = q; omega⟩
theorem rowT_pw (n : Net) (i : Nat) : (rowT n i n.by_.length).Pairwise (· < ·) := by
  unfold rowT
  rw [List.pairwise_map]
  refine List.Pairwise.filter _ ?_
  exact (List.pairwise_lt_range (n := n.by_.length)).imp (fun {a b} h => by show (a : Int) < (b : Int); omega)
theorem turn_follow {n : Net} {i : Nat} (h : i < n.by_.length) : (turnN n).follow.getD i [] = rowT n i n.by_.length := by
  simp [turnN, List.getD_eq_getElem?_getD, h]
theorem follow_getD {n : Net} {i : Nat} (h : i < n.follow.length) : n.follow.getD i [] = n.follow[i] := by
  rw [List.getD_eq_getElem?_getD, List.getElem?_eq_getElem h]; rfl
theorem mem_lastT {n : Net} {q : Int} : q ∈ lastT n ↔ (q = 0 ∧ 0 ∈ n.last) ∨ q ∈ n.follow.getD 0 [] := by
  unfold lastT
  rw [List.mem_append]
  by_cases h : n.last.contains 0 = true
  · rw [if_pos h]
    have h' : (0 : Int) ∈ n.last := by simpa using h
    simp only [List.mem_singleton, h', and_true]
  · rw [if_neg h]
    have h' : ¬ (0 : Int) ∈ n.last := by simpa using h
    simp only [List.not_mem_nil, h', and_false]
theorem turn_right {n : Net} (R : RightN n) : RightN (turnN n) := by
  have hn1 := R.n1
  have hfl := R.len
  have h0 : 0 < n.follow.length := by omega
  have hf0 := R.follow 0 h0
  refine ⟨R.s1, R.s2, R.n1, R.n2, by simp [turnN], R.by0, ?_, R.by_, fun i h => ?_⟩
  · refine ⟨?_, fun x hx => ?_⟩
    · show (lastT n).Pairwise (· < ·)
      unfold lastT
      rw [follow_getD h0, List.pairwise_append]
      refine ⟨by split <;> simp, hf0.1, fun a ha b hb => ?_⟩
      have hb2 := hf0.2 b hb
      split at ha
      · simp at ha; omega
      · simp at ha
    · rcases mem_lastT.mp hx with ⟨rfl, _⟩ | hx
      · exact ⟨by omega, by show (0 : Int) < (n.by_.length : Nat); omega⟩
      · rw [follow_getD h0] at hx
        have := hf0.2 x hx
        exact ⟨by omega, this.2⟩
  · have e : (turnN n).follow[i] = rowT n i n.by_.length := by simp [turnN]
    rw [e]
    refine ⟨rowT_pw n i, fun x hx => ?_⟩
    have := mem_rowT.mp hx
    exact ⟨this.1, this.2.1⟩
theorem mem_turn {n : Net} (R : RightN n) {p q : Int} (hp : 0 ≤ p ∧ p < n.by_.length) : q ∈ (turnN n).follow.getD p.toNat [] ↔ 1 ≤ q ∧ q < n.by_.length ∧ (if p = 0 then q ∈ n.last else p ∈ n.follow.getD q.toNat []) := by
  rw [turn_follow (by omega), mem_rowT]
  refine and_congr_right (fun h1 => and_congr_right (fun h2 => ?_))
  unfold rowP
  have e1 : ((q.toNat : Nat) : Int) = q := by omega
  by_cases h0 : p = 0
  · subst h0
    rw [if_pos rfl, if_pos (by rfl), e1]
    exact List.contains_iff_mem
  · have e2 : ((p.toNat : Nat) : Int) = p := by omega
    rw [if_neg h0, if_neg (by omega), e2]
    exact List.contains_iff_mem
/-! ### what they accept -/
def edgeN (n : Net) (p q s : Int) : Prop := 0 ≤ p ∧ p < n.follow.length ∧ q ∈ n.follow.getD p.toNat [] ∧ behS n s q = true
theorem mem_stepN {n : Net} {a : List Int} {s q : Int} : q ∈ stepN n a s ↔ ∃ p ∈ a, edgeN n p q s := by
  unfold stepN behindL behind1 edgeN
  rw [mem_setF, List.mem_flatMap]
  constructor
  · rintro ⟨p, hp, h⟩
    split at h
    · rename_i hb
      have := List.mem_filter.mp h
      exact ⟨p, hp, hb.1, hb.2, this.1, this.2⟩
    · simp at h
  · rintro ⟨p, hp, h1, h2, h3, h4⟩
    exact ⟨p, hp, by rw [if_pos ⟨h1, h2⟩]; exact List.mem_filter.mpr ⟨h3, h4⟩⟩
def AccF (n : Net) : Int → List Int → Prop
  | p, [] => p ∈ n.last
  | p, s :: l => ∃ q, edgeN n p q s ∧ AccF n q l
theorem acc_fold {n : Net} : ∀ (l a : List Int), (∃ q ∈ l.foldl (stepN n) a, q ∈ n.last) ↔ ∃ p ∈ a, AccF n p l
  | [], a => Iff.rfl
  | s :: l, a => by
    rw [List.foldl_cons, acc_fold l (stepN n a s)]
    constructor
    · rintro ⟨q, h1, h2⟩
      obtain ⟨p, h3, h4⟩ := mem_stepN.mp h1
      exact ⟨p, h3, q, h4, h2⟩
    · rintro ⟨p, h3, q, h4, h2⟩
      exact ⟨q, mem_stepN.mpr ⟨p, h3, h4⟩, h2⟩
theorem accN_iff {n : Net} {l : List Int} : accN n l = true ↔ rightN n = true ∧ AccF n 0 l := by
  unfold accN runN
  rw [Bool.and_eq_true, List.any_eq_true]
  refine and_congr_right (fun _ => ?_)
  have := acc_fold (n := n) l [0]
  simp only [List.mem_singleton, exists_eq_left] at this
  rw [← this]
  constructor
  · rintro ⟨q, h1, h2⟩; exact ⟨q, h1, by simpa using h2⟩
  · rintro ⟨q, h1, h2⟩; exact ⟨q, h1, by simpa using h2⟩
theorem runN_snoc (n : Net) (l : List Int) (s : Int) : runN n (l ++ [s]) = stepN n (runN n l) s := by
  unfold runN; rw [List.foldl_append]; rfl
theorem edge_ge {n : Net} (R : RightN n) {p q s : Int} (h : edgeN n p q s) : 1 ≤ q ∧ q < n.by_.length := by
  obtain ⟨h1, h2, h3, _⟩ := h
  rw [follow_getD (by omega)] at h3
  exact (R.follow p.toNat (by omega)).2 q h3
theorem rev_run {n : Net} (R : RightN n) : ∀ (l : List Int) (s q : Int), 1 ≤ q → (q ∈ runN n (l.reverse ++ [s]) ↔ behS n s q = true ∧ AccF (turnN n) q l)
  | [], s, q, hq => by
    have hn1 := R.n1
    have hfl := R.len
    rw [runN_snoc, mem_stepN]
    show (∃ p ∈ [0], edgeN n p q s) ↔ _ ∧ q ∈ lastT n
    rw [mem_lastT]
    simp only [List.mem_singleton, exists_eq_left]
    unfold edgeN
    constructor
    · rintro ⟨_, _, h3, h4⟩; exact ⟨h4, .inr h3⟩
    · rintro ⟨h4, h | h⟩
      · omega
      · exact ⟨by omega, by omega, h, h4⟩
  | s' :: l, s, q, hq => by
    have hn1 := R.n1
    have hfl := R.len
    have ih := rev_run R l s'
    have R2 := turn_right R
    have hf2 := R2.len
    have hb2 : (turnN n).by_.length = n.by_.length := rfl
    rw [List.reverse_cons, runN_snoc, mem_stepN]
    constructor
    · rintro ⟨p, h1, h2⟩
      have hp : 1 ≤ p := by
        rw [runN_snoc, mem_stepN] at h1
        obtain ⟨p', _, h⟩ := h1
        exact (edge_ge R h).1
      have hq2 := (edge_ge R h2).2
      obtain ⟨h3, h4⟩ := (ih p hp).mp h1
      refine ⟨h2.2.2.2, p, ⟨by omega, by omega, ?_, h3⟩, h4⟩
      rw [mem_turn R (by omega), if_neg (by omega)]
      exact ⟨hp, by have := h2.2.1; omega, h2.2.2.1⟩
    · rintro ⟨h1, p, ⟨h2, h3, h4, h5⟩, h6⟩
      rw [mem_turn R (by omega), if_neg (by omega)] at h4
      refine ⟨p, (ih p h4.1).mpr ⟨h5, h6⟩, by omega, by omega, h4.2.2, h1⟩
theorem acc_turn {n : Net} (hr : rightN n = true) (l : List Int) : accN (turnN n) l.reverse = accN n l := by
  have R := (rightN_iff n).mp hr
  have hr2 : rightN (turnN n) = true := (rightN_iff _).mpr (turn_right R)
  have hn1 := R.n1
  have hfl := R.len
  have h0 : 0 < n.follow.length := by omega
  have hb2 : (turnN n).by_.length = n.by_.length := rfl
  have hf2 := (turn_right R).len
  rw [Bool.eq_iff_iff]
  rw [accN_iff, accN_iff, hr, hr2]
  simp only [true_and]
  rcases List.eq_nil_or_concat l with rfl | ⟨l', s, rfl⟩
  · show 0 ∈ lastT n ↔ 0 ∈ n.last
    rw [mem_lastT]
    constructor
    · rintro (⟨_, h⟩ | h)
      · exact h
      · rw [follow_getD h0] at h; have := (R.follow 0 h0).2 0 h; omega
    · intro h; exact .inl ⟨rfl, h⟩
  · rw [List.concat_eq_append, List.reverse_append]
    have key := acc_fold (n := n) (l' ++ [s]) [0]
    simp only [List.mem_singleton, exists_eq_left] at key
    rw [← key]
    show (∃ q, edgeN (turnN n) 0 q s ∧ AccF (turnN n) q l'.reverse) ↔ ∃ q ∈ runN n (l' ++ [s]), q ∈ n.last
    have hrv := rev_run R l'.reverse s
    rw [List.reverse_reverse] at hrv
    constructor
    · rintro ⟨q, ⟨h1, h2, h3, h4⟩, h5⟩
      have h3' := (mem_turn R (p := 0) (q := q) (by omega)).mp h3
      rw [if_pos rfl] at h3'
      exact ⟨q, (hrv q h3'.1).mpr ⟨h4, h5⟩, h3'.2.2⟩
    · rintro ⟨q, h1, h2⟩
      have hq : 1 ≤ q := by
        rw [runN_snoc, mem_stepN] at h1
        obtain ⟨p', _, h⟩ := h1
        exact (edge_ge R h).1
      obtain ⟨h3, h4⟩ := (hrv q hq).mp h1
      have hl := R.last.2 q h2
      refine ⟨q, ⟨by omega, by omega, (mem_turn R (p := 0) (q := q) (by omega)).mpr ?_, h3⟩, h4⟩
      rw [if_pos rfl]
      exact ⟨hq, hl.2, h2⟩
theorem turnD_right (n : Net) : rightN (turnD n) = rightN n := by
  unfold turnD
  by_cases h : rightN n = true
  · rw [if_pos h, h]; exact (rightN_iff _).mpr (turn_right ((rightN_iff _).mp h))
  · rw [if_neg h]
    have : rightN n = false := by simpa using h
    rw [this]
    rfl
theorem accN_wrong {n : Net} (h : rightN n = false) (l : List Int) : accN n l = false := by unfold accN; rw [h]; rfl
theorem acc_turnD (n : Net) (l : List Int) : accN (turnD n) l.reverse = accN n l := by
  cases h : rightN n with
  | true => unfold turnD; rw [if_pos h]; exact acc_turn h l
  | false => rw [accN_wrong h, accN_wrong (by rw [turnD_right, h])]
theorem filtL_congr {p q : Nat → Bool} {i : Nat} (h : ∀ k, k < i → p k = q k) : filtL p i = filtL q i := by
  unfold filtL
  rw [List.filter_congr (fun k hk => h k (by simpa using hk))]
theorem headsN_eq (n : Net) (l : List Int) : headsN n l = filtL (hdP n l) (l.length + 1) := by
  unfold headsN
  cases h : rightN n with
  | true => rw [if_pos rfl]; rfl
  | false =>
    rw [if_neg (by simp)]
    symm
    unfold filtL
    rw [List.filter_eq_nil_iff.mpr (fun k _ => by unfold hdP; rw [accN_wrong h]; simp)]; rfl
theorem tails_eq (n : Net) (l : List Int) : headsN (turnD n) l.reverse = filtL (tlP n l) (l.length + 1) := by
  rw [headsN_eq, List.length_reverse]
  refine filtL_congr (fun k hk => ?_)
  unfold hdP tlP
  have hk2 : l.length - (l.length - k) = k := by omega
  have e : l.reverse.take k = (l.drop (l.length - k)).reverse := by rw [List.reverse_drop, hk2]
  rw [e, acc_turnD]
end Go.Rf


/- Own work: the laws of layer 14, gone through. -/
set_option linter.unusedVariables false
set_option linter.unusedSimpArgs false
namespace Go.Rf
open Go.RowKit

def c_caesuralaw14_BackAnswers (f_caesuralaw14_alive f_caesuraref13_Great f_back_Turn f_caesuraref14_Turn f_caesuraref14_Heads f_caesuraref14_Tails f_caesuraref13_Same f_back_Heads f_caesuraref01_Ints f_back_Tails f_back_Head f_back_Tail : FuncId) : AC :=
  (.seq (.reg none [
   ⟨(some 2), .box 4 (.t 0), none, none⟩,
   ⟨(some 4), .mv (.c (.v (.bool false))), none, none⟩])
  (.seq (.seq (.reg none [
   ⟨(some 11), .mv (.c .junk), none, (some ((.c (.clo f_caesuralaw14_alive [] [])), []))⟩,
   ⟨(some 12), .un .not (.t 11), none, none⟩])
  (.cond (.t 12) (.seq (.reg none [
    ⟨(some 4), .mv (.c (.v (.bool false))), none, none⟩])
   .ret) .skip))
  (.seq (.seq (.reg none [
   ⟨(some 13), .load (some 4) (.t 2), none, none⟩,
   ⟨(some 14), .mv (.c .junk), none, (some ((.c (.clo f_caesuraref13_Great [] [])), [(.t 13), (.c (.v (.int .i64 400)))]))⟩,
   ⟨(some 15), .mv (.t 14), none, none⟩,
   ⟨(some 16), .mv (.t 1), (some (15, false)), none⟩,
   ⟨(some 17), .len (.t 16), (some (15, false)), none⟩,
   ⟨(some 18), .bin .gtr (.t 17) (.c (.v (.int .i64 12))), (some (15, false)), none⟩,
   ⟨(some 19), .pick (.t 15) (.c (.v (.bool true))) (.t 18), none, none⟩])
  (.cond (.t 19) (.seq (.reg none [
    ⟨(some 4), .mv (.c (.v (.bool true))), none, none⟩])
   .ret) .skip))
  (.seq (.reg none [
   ⟨(some 21), .load (some 4) (.t 2), none, none⟩,
   ⟨(some 22), .mv (.c .junk), none, (some ((.c (.clo f_back_Turn [] [])), [(.t 21)]))⟩,
   ⟨(some 20), .mv (.t 22), none, none⟩,
   ⟨(some 23), .ext 0 (.t 20), none, none⟩,
   ⟨(some 24), .ext 1 (.t 20), none, none⟩,
   ⟨(some 5), .alloc (.agg [(.v (.int .i64 0)), (.sl true []), (.sl true []), (.sl true [])]) 4, none, none⟩,
   ⟨none, .store 4 (.t 5) (.t 23), none, none⟩,
   ⟨(some 6), .mv (.t 24), none, none⟩])
  (.seq (.reg none [
   ⟨(some 26), .load (some 4) (.t 2), none, none⟩,
   ⟨(some 27), .mv (.c .junk), none, (some ((.c (.clo f_caesuraref14_Turn [] [])), [(.t 26)]))⟩,
   ⟨(some 25), .mv (.t 27), none, none⟩,
   ⟨(some 28), .ext 0 (.t 25), none, none⟩,
   ⟨(some 29), .ext 1 (.t 25), none, none⟩,
   ⟨(some 7), .alloc (.agg [(.v (.int .i64 0)), (.sl true []), (.sl true []), (.sl true [])]) 4, none, none⟩,
   ⟨none, .store 4 (.t 7) (.t 28), none, none⟩,
   ⟨(some 8), .mv (.t 29), none, none⟩])
  (.seq (.reg (some []) [
   ⟨(some 30), .load (some 4) (.t 2), none, none⟩,
   ⟨(some 31), .mv (.t 1), none, none⟩,
   ⟨(some 32), .mv (.c .junk), none, (some ((.c (.clo f_caesuraref14_Heads [] [])), [(.t 30), (.t 31)]))⟩,
   ⟨(some 33), .load (some 4) (.t 2), none, none⟩,
   ⟨(some 34), .mv (.t 1), none, none⟩,
   ⟨(some 35), .mv (.c .junk), none, (some ((.c (.clo f_caesuraref14_Tails [] [])), [(.t 33), (.t 34)]))⟩,
   ⟨(some 9), .mv (.t 32), none, none⟩,
   ⟨(some 10), .mv (.t 35), none, none⟩])
  (.seq (.reg none [
   ⟨(some 36), .load (some 4) (.t 5), none, none⟩,
   ⟨(some 37), .load (some 4) (.t 7), none, none⟩,
   ⟨(some 38), .mv (.c .junk), none, (some ((.c (.clo f_caesuraref13_Same [] [])), [(.t 36), (.t 37)]))⟩,
   ⟨(some 39), .mv (.t 38), none, none⟩,
   ⟨(some 40), .mv (.t 6), (some (39, true)), none⟩,
   ⟨(some 41), .mv (.t 8), (some (39, true)), none⟩,
   ⟨(some 42), .bin .eql (.t 40) (.t 41), (some (39, true)), none⟩,
   ⟨(some 43), .pick (.t 39) (.t 42) (.c (.v (.bool false))), none, none⟩,
   ⟨(some 44), .mv (.t 43), none, none⟩,
   ⟨(some 45), .load (some 4) (.t 2), (some (44, true)), none⟩,
   ⟨(some 46), .mv (.t 1), (some (44, true)), none⟩,
   ⟨(some 47), .mv (.c .junk), (some (44, true)), (some ((.c (.clo f_back_Heads [] [])), [(.t 45), (.t 46)]))⟩,
   ⟨(some 48), .mv (.t 9), (some (44, true)), none⟩,
   ⟨(some 49), .mv (.c .junk), (some (44, true)), (some ((.c (.clo f_caesuraref01_Ints [] [])), [(.t 47), (.t 48)]))⟩,
   ⟨(some 50), .pick (.t 44) (.t 49) (.c (.v (.bool false))), none, none⟩,
   ⟨(some 51), .mv (.t 50), none, none⟩,
   ⟨(some 52), .load (some 4) (.t 2), (some (51, true)), none⟩,
   ⟨(some 53), .mv (.t 1), (some (51, true)), none⟩,
   ⟨(some 54), .mv (.c .junk), (some (51, true)), (some ((.c (.clo f_back_Tails [] [])), [(.t 52), (.t 53)]))⟩,
   ⟨(some 55), .mv (.t 10), (some (51, true)), none⟩,
   ⟨(some 56), .mv (.c .junk), (some (51, true)), (some ((.c (.clo f_caesuraref01_Ints [] [])), [(.t 54), (.t 55)]))⟩,
   ⟨(some 57), .pick (.t 51) (.t 56) (.c (.v (.bool false))), none, none⟩,
   ⟨(some 58), .mv (.t 57), none, none⟩,
   ⟨(some 59), .load (some 4) (.t 2), (some (58, true)), none⟩,
   ⟨(some 60), .mv (.t 1), (some (58, true)), none⟩,
   ⟨(some 61), .mv (.c .junk), (some (58, true)), (some ((.c (.clo f_back_Head [] [])), [(.t 59), (.t 60)]))⟩,
   ⟨(some 62), .mv (.t 9), (some (58, true)), none⟩,
   ⟨(some 63), .len (.t 62), (some (58, true)), none⟩,
   ⟨(some 64), .bin .gtr (.t 63) (.c (.v (.int .i64 0))), (some (58, true)), none⟩,
   ⟨(some 65), .beq false (.t 61) (.t 64), (some (58, true)), none⟩,
   ⟨(some 66), .pick (.t 58) (.t 65) (.c (.v (.bool false))), none, none⟩,
   ⟨(some 67), .mv (.t 66), none, none⟩,
   ⟨(some 68), .load (some 4) (.t 2), (some (67, true)), none⟩,
   ⟨(some 69), .mv (.t 1), (some (67, true)), none⟩,
   ⟨(some 70), .mv (.c .junk), (some (67, true)), (some ((.c (.clo f_back_Tail [] [])), [(.t 68), (.t 69)]))⟩,
   ⟨(some 71), .mv (.t 10), (some (67, true)), none⟩,
   ⟨(some 72), .len (.t 71), (some (67, true)), none⟩,
   ⟨(some 73), .bin .gtr (.t 72) (.c (.v (.int .i64 0))), (some (67, true)), none⟩,
   ⟨(some 74), .beq false (.t 70) (.t 73), (some (67, true)), none⟩,
   ⟨(some 75), .pick (.t 67) (.t 74) (.c (.v (.bool false))), none, none⟩,
   ⟨(some 4), .mv (.t 75), none, none⟩])
  .ret)))))))
def c_caesuralaw14_accepts (f_caesuraref13_Accepts : FuncId) : AC :=
  (.seq (.reg none [
   ⟨(some 2), .box 4 (.t 0), none, none⟩,
   ⟨(some 4), .mv (.c (.v (.bool false))), none, none⟩])
  (.seq (.reg none [
   ⟨(some 5), .load (some 4) (.t 2), none, none⟩,
   ⟨(some 6), .mv (.t 1), none, none⟩,
   ⟨(some 7), .mv (.c .junk), none, (some ((.c (.clo f_caesuraref13_Accepts [] [])), [(.t 5), (.t 6)]))⟩,
   ⟨(some 4), .mv (.t 7), none, none⟩])
  .ret))
theorem accepts14_body {P : Program} {fa : FuncId} (n : Net) (l : List Int) (r : Bool) (h : PureC P fa [encNet n, encIs l] (encB r)) : AW P (c_caesuralaw14_accepts fa) (RetK [4] (FzK (encB r))) (argF [encNet n, encIs l]) S0 := by
  have c := cl_cons (closed_Net n) (cl_cons (closed_Is l) cl_nil)
  simp only [encNet, encIs, encIss] at h c
  simp [AW_seq, AW_reg, AW_regD, AW_block, AW_cond, AW_skip, AW_exit, AW_ret, AW_scp, condR_true, condR_false, AThen_normal, AThen_ret, AThen_exit, ABlock_normal, ABlock_ret, ABlock_exit, AScope_normal, AScope_ret, AScope_exit, RetK_ret, RetK_normal, retAV_one, retAV_two, retAV_three, retAV_nil, RG_nil, RG_op, RG_guard, gdR_tt, gdR_ff, gdR_tf, gdR_ft, gdR_un, RG_call, callQ_clo, contK_ap, opR_some, RD_nil, RD_op0, RD_op1, opD0_some, opD1_some, RD_call, callQD_clo, RD_guard, gdD_tt, gdD_ff, gdD_tf, gdD_ft, gdD_un, psh_nil, psh_cons, Apt_nil, Apt_nilT, Apt_true, Apt_false, Dis_def, runT_val, runT_rd, runT_wr, runT_new, runT_mv, ex, put_some, put_none, ev_t, ev_c, argF_zero, argF_succ, set_g, set_n, cells_v, cells_sl, cells_agg, cells_own, cells_ptr, cells_clo, cells_eptr, cells_mp, putc, exBslice, lfill, exField, exIdxV, exIdxP, exBox, exAlloc, exLoad, exStore, exFieldA, exIdxA, exLen, exPick, exUn, exBeq, exMM, exSeq, seqGo, exExt, binV, intOp, subc, AV.solid, S0, encI, encB, c_caesuralaw14_accepts, encNet, encIss, encIs]
  refine CallR.pure h c (closed_B _) ?_
  simp [AW_seq, AW_reg, AW_regD, AW_block, AW_cond, AW_skip, AW_exit, AW_ret, AW_scp, condR_true, condR_false, AThen_normal, AThen_ret, AThen_exit, ABlock_normal, ABlock_ret, ABlock_exit, AScope_normal, AScope_ret, AScope_exit, RetK_ret, RetK_normal, retAV_one, retAV_two, retAV_three, retAV_nil, RG_nil, RG_op, RG_guard, gdR_tt, gdR_ff, gdR_tf, gdR_ft, gdR_un, RG_call, callQ_clo, contK_ap, opR_some, RD_nil, RD_op0, RD_op1, opD0_some, opD1_some, RD_call, callQD_clo, RD_guard, gdD_tt, gdD_ff, gdD_tf, gdD_ft, gdD_un, psh_nil, psh_cons, Apt_nil, Apt_nilT, Apt_true, Apt_false, Dis_def, runT_val, runT_rd, runT_wr, runT_new, runT_mv, ex, put_some, put_none, ev_t, ev_c, argF_zero, argF_succ, set_g, set_n, cells_v, cells_sl, cells_agg, cells_own, cells_ptr, cells_clo, cells_eptr, cells_mp, putc, exBslice, lfill, exField, exIdxV, exIdxP, exBox, exAlloc, exLoad, exStore, exFieldA, exIdxA, exLen, exPick, exUn, exBeq, exMM, exSeq, seqGo, exExt, binV, intOp, subc, AV.solid, S0, encI, encB]
  exact FzK_B _ _
structure HBack (P : Program) (n : Net) (l : List Int) (bt rt rh rl fs bh bl bd be : FuncId) : Prop where
  bt : PureC P bt [encNet n] (.tup [encNet (turnD n), encI (turnE n)])
  rt : PureC P rt [encNet n] (.tup [encNet (turnD n), encI (turnE n)])
  rh : PureC P rh [encNet n, encIs l] (encIs (filtL (hdP n l) (l.length + 1)))
  rl : PureC P rl [encNet n, encIs l] (encIs (filtL (tlP n l) (l.length + 1)))
  fs : PureC P fs [encNet (turnD n), encNet (turnD n)] (encB true)
  bh : PureC P bh [encNet n, encIs l] (encIs (headsN n l))
  bl : PureC P bl [encNet n, encIs l] (encIs (headsN (turnD n) l.reverse))
  bd : PureC P bd [encNet n, encIs l] (encB (decide (headsN n l ≠ [])))
  be : PureC P be [encNet n, encIs l] (encB (decide (headsN (turnD n) l.reverse ≠ [])))
theorem BackAnswers_body {P : Program} {fl fg bt rt rh rl fs bh fi bl bd be : FuncId} (n : Net) (l : List Int) (hl : PureC P fl [] (encB true)) (gn : Bool) (hgn : PureC P fg [encNet n, encI 400] (encB gn))
    (hi : ∀ a b, Len a → Len b → PureC P fi [encIs a, encIs b] (encB (a == b))) (H : gn = false → l.length ≤ 12 → HBack P n l bt rt rh rl fs bh bl bd be) :
    AW P (c_caesuralaw14_BackAnswers fl fg bt rt rh rl fs bh fi bl bd be) (RetK [4] (FzK (encB true))) (argF [encNet n, encIs l]) S0 := by
  have cn := closed_Net n
  have K : ∀ {f : FuncId} {args : List AV} {r : AV}, PureC P f args r → (∀ x ∈ args, Closed x) → Closed r → ∀ n g, CallD P f args ⟨n, g⟩ [] r := fun h hc hr n g => CallD.kl h hc hr
  simp [AW_seq, AW_reg, AW_regD, AW_block, AW_cond, AW_skip, AW_exit, AW_ret, AW_scp, condR_true, condR_false, AThen_normal, AThen_ret, AThen_exit, ABlock_normal, ABlock_ret, ABlock_exit, AScope_normal, AScope_ret, AScope_exit, RetK_ret, RetK_normal, retAV_one, retAV_two, retAV_three, retAV_nil, RG_nil, RG_op, RG_guard, gdR_tt, gdR_ff, gdR_tf, gdR_ft, gdR_un, RG_call, callQ_clo, contK_ap, opR_some, RD_nil, RD_op0, RD_op1, opD0_some, opD1_some, RD_call, callQD_clo, RD_guard, gdD_tt, gdD_ff, gdD_tf, gdD_ft, gdD_un, psh_nil, psh_cons, Apt_nil, Apt_nilT, Apt_true, Apt_false, Dis_def, runT_val, runT_rd, runT_wr, runT_new, runT_mv, ex, put_some, put_none, ev_t, ev_c, argF_zero, argF_succ, set_g, set_n, cells_v, cells_sl, cells_agg, cells_own, cells_ptr, cells_clo, cells_eptr, cells_mp, putc, exBslice, lfill, exField, exIdxV, exIdxP, exBox, exAlloc, exLoad, exStore, exFieldA, exIdxA, exLen, exPick, exUn, exBeq, exMM, exSeq, seqGo, exExt, binV, intOp, subc, AV.solid, S0, encI, encB, c_caesuralaw14_BackAnswers, encNet]
  refine CallR.pure hl cl_nil (closed_B _) ?_
  simp [AW_seq, AW_reg, AW_regD, AW_block, AW_cond, AW_skip, AW_exit, AW_ret, AW_scp, condR_true, condR_false, AThen_normal, AThen_ret, AThen_exit, ABlock_normal, ABlock_ret, ABlock_exit, AScope_normal, AScope_ret, AScope_exit, RetK_ret, RetK_normal, retAV_one, retAV_two, retAV_three, retAV_nil, RG_nil, RG_op, RG_guard, gdR_tt, gdR_ff, gdR_tf, gdR_ft, gdR_un, RG_call, callQ_clo, contK_ap, opR_some, RD_nil, RD_op0, RD_op1, opD0_some, opD1_some, RD_call, callQD_clo, RD_guard, gdD_tt, gdD_ff, gdD_tf, gdD_ft, gdD_un, psh_nil, psh_cons, Apt_nil, Apt_nilT, Apt_true, Apt_false, Dis_def, runT_val, runT_rd, runT_wr, runT_new, runT_mv, ex, put_some, put_none, ev_t, ev_c, argF_zero, argF_succ, set_g, set_n, cells_v, cells_sl, cells_agg, cells_own, cells_ptr, cells_clo, cells_eptr, cells_mp, putc, exBslice, lfill, exField, exIdxV, exIdxP, exBox, exAlloc, exLoad, exStore, exFieldA, exIdxA, exLen, exPick, exUn, exBeq, exMM, exSeq, seqGo, exExt, binV, intOp, subc, AV.solid, S0, encI, encB]
  refine CallR.pure hgn (cl_cons cn (cl_cons (closed_I _) cl_nil)) (closed_B _) ?_
  cases gn with
  | true =>
    simp [AW_seq, AW_reg, AW_regD, AW_block, AW_cond, AW_skip, AW_exit, AW_ret, AW_scp, condR_true, condR_false, AThen_normal, AThen_ret, AThen_exit, ABlock_normal, ABlock_ret, ABlock_exit, AScope_normal, AScope_ret, AScope_exit, RetK_ret, RetK_normal, retAV_one, retAV_two, retAV_three, retAV_nil, RG_nil, RG_op, RG_guard, gdR_tt, gdR_ff, gdR_tf, gdR_ft, gdR_un, RG_call, callQ_clo, contK_ap, opR_some, RD_nil, RD_op0, RD_op1, opD0_some, opD1_some, RD_call, callQD_clo, RD_guard, gdD_tt, gdD_ff, gdD_tf, gdD_ft, gdD_un, psh_nil, psh_cons, Apt_nil, Apt_nilT, Apt_true, Apt_false, Dis_def, runT_val, runT_rd, runT_wr, runT_new, runT_mv, ex, put_some, put_none, ev_t, ev_c, argF_zero, argF_succ, set_g, set_n, cells_v, cells_sl, cells_agg, cells_own, cells_ptr, cells_clo, cells_eptr, cells_mp, putc, exBslice, lfill, exField, exIdxV, exIdxP, exBox, exAlloc, exLoad, exStore, exFieldA, exIdxA, exLen, exPick, exUn, exBeq, exMM, exSeq, seqGo, exExt, binV, intOp, subc, AV.solid, S0, encI, encB]
    exact FzK_B true _
  | false =>
    by_cases hlen : (12 : Int) < l.length
    · have hl' : 12 < l.length := by omega
      simp [AW_seq, AW_reg, AW_regD, AW_block, AW_cond, AW_skip, AW_exit, AW_ret, AW_scp, condR_true, condR_false, AThen_normal, AThen_ret, AThen_exit, ABlock_normal, ABlock_ret, ABlock_exit, AScope_normal, AScope_ret, AScope_exit, RetK_ret, RetK_normal, retAV_one, retAV_two, retAV_three, retAV_nil, RG_nil, RG_op, RG_guard, gdR_tt, gdR_ff, gdR_tf, gdR_ft, gdR_un, RG_call, callQ_clo, contK_ap, opR_some, RD_nil, RD_op0, RD_op1, opD0_some, opD1_some, RD_call, callQD_clo, RD_guard, gdD_tt, gdD_ff, gdD_tf, gdD_ft, gdD_un, psh_nil, psh_cons, Apt_nil, Apt_nilT, Apt_true, Apt_false, Dis_def, runT_val, runT_rd, runT_wr, runT_new, runT_mv, ex, put_some, put_none, ev_t, ev_c, argF_zero, argF_succ, set_g, set_n, cells_v, cells_sl, cells_agg, cells_own, cells_ptr, cells_clo, cells_eptr, cells_mp, putc, exBslice, lfill, exField, exIdxV, exIdxP, exBox, exAlloc, exLoad, exStore, exFieldA, exIdxA, exLen, exPick, exUn, exBeq, exMM, exSeq, seqGo, exExt, binV, intOp, subc, AV.solid, S0, encI, encB, encIs, hlen, hl']
      exact FzK_B true _
    · have hl' : ¬ 12 < l.length := by omega
      have h := H rfl (by omega)
      obtain ⟨k1, k2, k3, k4, k5, k6, k7, k8, k9⟩ := h
      rw [← headsN_eq] at k3
      rw [← tails_eq] at k4
      have L1 : Len (headsN n l) := by rw [headsN_eq]; have := filtL_len (hdP n l) (l.length + 1); unfold Len; omega
      have L2 : Len (headsN (turnD n) l.reverse) := by rw [tails_eq]; have := filtL_len (tlP n l) (l.length + 1); unfold Len; omega
      generalize turnD n = m at *
      generalize turnE n = e at *
      generalize headsN n l = h1 at *
      generalize headsN m l.reverse = h2 at *
      have k10 := hi h1 h1 L1 L1
      have k11 := hi h2 h2 L2 L2
      rw [beq_self_eq_true] at k10 k11
      have cm := closed_Net m
      have ct : Closed (.tup [encNet m, encI e]) := .tup _ (cl_cons cm (cl_cons (closed_I e) cl_nil))
      have cl := closed_Is l
      have c1 := cl_cons cn (cl_cons cl cl_nil)
      have D3 := K k3 c1 (closed_Is _)
      have D4 := K k4 c1 (closed_Is _)
      simp only [encNet, encIs, encI, encIss] at *
      simp [AW_seq, AW_reg, AW_regD, AW_block, AW_cond, AW_skip, AW_exit, AW_ret, AW_scp, condR_true, condR_false, AThen_normal, AThen_ret, AThen_exit, ABlock_normal, ABlock_ret, ABlock_exit, AScope_normal, AScope_ret, AScope_exit, RetK_ret, RetK_normal, retAV_one, retAV_two, retAV_three, retAV_nil, RG_nil, RG_op, RG_guard, gdR_tt, gdR_ff, gdR_tf, gdR_ft, gdR_un, RG_call, callQ_clo, contK_ap, opR_some, RD_nil, RD_op0, RD_op1, opD0_some, opD1_some, RD_call, callQD_clo, RD_guard, gdD_tt, gdD_ff, gdD_tf, gdD_ft, gdD_un, psh_nil, psh_cons, Apt_nil, Apt_nilT, Apt_true, Apt_false, Dis_def, runT_val, runT_rd, runT_wr, runT_new, runT_mv, ex, put_some, put_none, ev_t, ev_c, argF_zero, argF_succ, set_g, set_n, cells_v, cells_sl, cells_agg, cells_own, cells_ptr, cells_clo, cells_eptr, cells_mp, putc, exBslice, lfill, exField, exIdxV, exIdxP, exBox, exAlloc, exLoad, exStore, exFieldA, exIdxA, exLen, exPick, exUn, exBeq, exMM, exSeq, seqGo, exExt, binV, intOp, subc, AV.solid, S0, encI, encB, encIs, hlen, hl']
      refine CallR.pure k1 (cl_cons cn cl_nil) ct ?_
      simp [AW_seq, AW_reg, AW_regD, AW_block, AW_cond, AW_skip, AW_exit, AW_ret, AW_scp, condR_true, condR_false, AThen_normal, AThen_ret, AThen_exit, ABlock_normal, ABlock_ret, ABlock_exit, AScope_normal, AScope_ret, AScope_exit, RetK_ret, RetK_normal, retAV_one, retAV_two, retAV_three, retAV_nil, RG_nil, RG_op, RG_guard, gdR_tt, gdR_ff, gdR_tf, gdR_ft, gdR_un, RG_call, callQ_clo, contK_ap, opR_some, RD_nil, RD_op0, RD_op1, opD0_some, opD1_some, RD_call, callQD_clo, RD_guard, gdD_tt, gdD_ff, gdD_tf, gdD_ft, gdD_un, psh_nil, psh_cons, Apt_nil, Apt_nilT, Apt_true, Apt_false, Dis_def, runT_val, runT_rd, runT_wr, runT_new, runT_mv, ex, put_some, put_none, ev_t, ev_c, argF_zero, argF_succ, set_g, set_n, cells_v, cells_sl, cells_agg, cells_own, cells_ptr, cells_clo, cells_eptr, cells_mp, putc, exBslice, lfill, exField, exIdxV, exIdxP, exBox, exAlloc, exLoad, exStore, exFieldA, exIdxA, exLen, exPick, exUn, exBeq, exMM, exSeq, seqGo, exExt, binV, intOp, subc, AV.solid, S0, encI, encB]
      refine CallR.pure k2 (cl_cons cn cl_nil) ct ?_
      simp [AW_seq, AW_reg, AW_regD, AW_block, AW_cond, AW_skip, AW_exit, AW_ret, AW_scp, condR_true, condR_false, AThen_normal, AThen_ret, AThen_exit, ABlock_normal, ABlock_ret, ABlock_exit, AScope_normal, AScope_ret, AScope_exit, RetK_ret, RetK_normal, retAV_one, retAV_two, retAV_three, retAV_nil, RG_nil, RG_op, RG_guard, gdR_tt, gdR_ff, gdR_tf, gdR_ft, gdR_un, RG_call, callQ_clo, contK_ap, opR_some, RD_nil, RD_op0, RD_op1, opD0_some, opD1_some, RD_call, callQD_clo, RD_guard, gdD_tt, gdD_ff, gdD_tf, gdD_ft, gdD_un, psh_nil, psh_cons, Apt_nil, Apt_nilT, Apt_true, Apt_false, Dis_def, runT_val, runT_rd, runT_wr, runT_new, runT_mv, ex, put_some, put_none, ev_t, ev_c, argF_zero, argF_succ, set_g, set_n, cells_v, cells_sl, cells_agg, cells_own, cells_ptr, cells_clo, cells_eptr, cells_mp, putc, exBslice, lfill, exField, exIdxV, exIdxP, exBox, exAlloc, exLoad, exStore, exFieldA, exIdxA, exLen, exPick, exUn, exBeq, exMM, exSeq, seqGo, exExt, binV, intOp, subc, AV.solid, S0, encI, encB]
      have cm1 := cl_cons cm (cl_cons cm cl_nil)
      have c11 := cl_cons (closed_Is h1) (cl_cons (closed_Is h1) cl_nil)
      have c22 := cl_cons (closed_Is h2) (cl_cons (closed_Is h2) cl_nil)
      simp only [encNet, encIs, encI, encIss] at cm1 c11 c22
      refine ⟨_, ⟨_, D3 _ _⟩, _, ⟨_, D4 _ _⟩, ?_⟩
      refine CallR.pure k5 cm1 (closed_B _) ?_
      simp [AW_seq, AW_reg, AW_regD, AW_block, AW_cond, AW_skip, AW_exit, AW_ret, AW_scp, condR_true, condR_false, AThen_normal, AThen_ret, AThen_exit, ABlock_normal, ABlock_ret, ABlock_exit, AScope_normal, AScope_ret, AScope_exit, RetK_ret, RetK_normal, retAV_one, retAV_two, retAV_three, retAV_nil, RG_nil, RG_op, RG_guard, gdR_tt, gdR_ff, gdR_tf, gdR_ft, gdR_un, RG_call, callQ_clo, contK_ap, opR_some, RD_nil, RD_op0, RD_op1, opD0_some, opD1_some, RD_call, callQD_clo, RD_guard, gdD_tt, gdD_ff, gdD_tf, gdD_ft, gdD_un, psh_nil, psh_cons, Apt_nil, Apt_nilT, Apt_true, Apt_false, Dis_def, runT_val, runT_rd, runT_wr, runT_new, runT_mv, ex, put_some, put_none, ev_t, ev_c, argF_zero, argF_succ, set_g, set_n, cells_v, cells_sl, cells_agg, cells_own, cells_ptr, cells_clo, cells_eptr, cells_mp, putc, exBslice, lfill, exField, exIdxV, exIdxP, exBox, exAlloc, exLoad, exStore, exFieldA, exIdxA, exLen, exPick, exUn, exBeq, exMM, exSeq, seqGo, exExt, binV, intOp, subc, AV.solid, S0, encI, encB]
      refine CallR.pure k6 c1 (closed_Is _) ?_
      simp [AW_seq, AW_reg, AW_regD, AW_block, AW_cond, AW_skip, AW_exit, AW_ret, AW_scp, condR_true, condR_false, AThen_normal, AThen_ret, AThen_exit, ABlock_normal, ABlock_ret, ABlock_exit, AScope_normal, AScope_ret, AScope_exit, RetK_ret, RetK_normal, retAV_one, retAV_two, retAV_three, retAV_nil, RG_nil, RG_op, RG_guard, gdR_tt, gdR_ff, gdR_tf, gdR_ft, gdR_un, RG_call, callQ_clo, contK_ap, opR_some, RD_nil, RD_op0, RD_op1, opD0_some, opD1_some, RD_call, callQD_clo, RD_guard, gdD_tt, gdD_ff, gdD_tf, gdD_ft, gdD_un, psh_nil, psh_cons, Apt_nil, Apt_nilT, Apt_true, Apt_false, Dis_def, runT_val, runT_rd, runT_wr, runT_new, runT_mv, ex, put_some, put_none, ev_t, ev_c, argF_zero, argF_succ, set_g, set_n, cells_v, cells_sl, cells_agg, cells_own, cells_ptr, cells_clo, cells_eptr, cells_mp, putc, exBslice, lfill, exField, exIdxV, exIdxP, exBox, exAlloc, exLoad, exStore, exFieldA, exIdxA, exLen, exPick, exUn, exBeq, exMM, exSeq, seqGo, exExt, binV, intOp, subc, AV.solid, S0, encI, encB]
      refine CallR.pure k10 c11 (closed_B _) ?_
      simp [AW_seq, AW_reg, AW_regD, AW_block, AW_cond, AW_skip, AW_exit, AW_ret, AW_scp, condR_true, condR_false, AThen_normal, AThen_ret, AThen_exit, ABlock_normal, ABlock_ret, ABlock_exit, AScope_normal, AScope_ret, AScope_exit, RetK_ret, RetK_normal, retAV_one, retAV_two, retAV_three, retAV_nil, RG_nil, RG_op, RG_guard, gdR_tt, gdR_ff, gdR_tf, gdR_ft, gdR_un, RG_call, callQ_clo, contK_ap, opR_some, RD_nil, RD_op0, RD_op1, opD0_some, opD1_some, RD_call, callQD_clo, RD_guard, gdD_tt, gdD_ff, gdD_tf, gdD_ft, gdD_un, psh_nil, psh_cons, Apt_nil, Apt_nilT, Apt_true, Apt_false, Dis_def, runT_val, runT_rd, runT_wr, runT_new, runT_mv, ex, put_some, put_none, ev_t, ev_c, argF_zero, argF_succ, set_g, set_n, cells_v, cells_sl, cells_agg, cells_own, cells_ptr, cells_clo, cells_eptr, cells_mp, putc, exBslice, lfill, exField, exIdxV, exIdxP, exBox, exAlloc, exLoad, exStore, exFieldA, exIdxA, exLen, exPick, exUn, exBeq, exMM, exSeq, seqGo, exExt, binV, intOp, subc, AV.solid, S0, encI, encB]
      refine CallR.pure k7 c1 (closed_Is _) ?_
      simp [AW_seq, AW_reg, AW_regD, AW_block, AW_cond, AW_skip, AW_exit, AW_ret, AW_scp, condR_true, condR_false, AThen_normal, AThen_ret, AThen_exit, ABlock_normal, ABlock_ret, ABlock_exit, AScope_normal, AScope_ret, AScope_exit, RetK_ret, RetK_normal, retAV_one, retAV_two, retAV_three, retAV_nil, RG_nil, RG_op, RG_guard, gdR_tt, gdR_ff, gdR_tf, gdR_ft, gdR_un, RG_call, callQ_clo, contK_ap, opR_some, RD_nil, RD_op0, RD_op1, opD0_some, opD1_some, RD_call, callQD_clo, RD_guard, gdD_tt, gdD_ff, gdD_tf, gdD_ft, gdD_un, psh_nil, psh_cons, Apt_nil, Apt_nilT, Apt_true, Apt_false, Dis_def, runT_val, runT_rd, runT_wr, runT_new, runT_mv, ex, put_some, put_none, ev_t, ev_c, argF_zero, argF_succ, set_g, set_n, cells_v, cells_sl, cells_agg, cells_own, cells_ptr, cells_clo, cells_eptr, cells_mp, putc, exBslice, lfill, exField, exIdxV, exIdxP, exBox, exAlloc, exLoad, exStore, exFieldA, exIdxA, exLen, exPick, exUn, exBeq, exMM, exSeq, seqGo, exExt, binV, intOp, subc, AV.solid, S0, encI, encB]
      refine CallR.pure k11 c22 (closed_B _) ?_
      simp [AW_seq, AW_reg, AW_regD, AW_block, AW_cond, AW_skip, AW_exit, AW_ret, AW_scp, condR_true, condR_false, AThen_normal, AThen_ret, AThen_exit, ABlock_normal, ABlock_ret, ABlock_exit, AScope_normal, AScope_ret, AScope_exit, RetK_ret, RetK_normal, retAV_one, retAV_two, retAV_three, retAV_nil, RG_nil, RG_op, RG_guard, gdR_tt, gdR_ff, gdR_tf, gdR_ft, gdR_un, RG_call, callQ_clo, contK_ap, opR_some, RD_nil, RD_op0, RD_op1, opD0_some, opD1_some, RD_call, callQD_clo, RD_guard, gdD_tt, gdD_ff, gdD_tf, gdD_ft, gdD_un, psh_nil, psh_cons, Apt_nil, Apt_nilT, Apt_true, Apt_false, Dis_def, runT_val, runT_rd, runT_wr, runT_new, runT_mv, ex, put_some, put_none, ev_t, ev_c, argF_zero, argF_succ, set_g, set_n, cells_v, cells_sl, cells_agg, cells_own, cells_ptr, cells_clo, cells_eptr, cells_mp, putc, exBslice, lfill, exField, exIdxV, exIdxP, exBox, exAlloc, exLoad, exStore, exFieldA, exIdxA, exLen, exPick, exUn, exBeq, exMM, exSeq, seqGo, exExt, binV, intOp, subc, AV.solid, S0, encI, encB]
      refine CallR.pure k8 c1 (closed_B _) ?_
      by_cases z1 : h1 = []
      · subst z1
        simp [AW_seq, AW_reg, AW_regD, AW_block, AW_cond, AW_skip, AW_exit, AW_ret, AW_scp, condR_true, condR_false, AThen_normal, AThen_ret, AThen_exit, ABlock_normal, ABlock_ret, ABlock_exit, AScope_normal, AScope_ret, AScope_exit, RetK_ret, RetK_normal, retAV_one, retAV_two, retAV_three, retAV_nil, RG_nil, RG_op, RG_guard, gdR_tt, gdR_ff, gdR_tf, gdR_ft, gdR_un, RG_call, callQ_clo, contK_ap, opR_some, RD_nil, RD_op0, RD_op1, opD0_some, opD1_some, RD_call, callQD_clo, RD_guard, gdD_tt, gdD_ff, gdD_tf, gdD_ft, gdD_un, psh_nil, psh_cons, Apt_nil, Apt_nilT, Apt_true, Apt_false, Dis_def, runT_val, runT_rd, runT_wr, runT_new, runT_mv, ex, put_some, put_none, ev_t, ev_c, argF_zero, argF_succ, set_g, set_n, cells_v, cells_sl, cells_agg, cells_own, cells_ptr, cells_clo, cells_eptr, cells_mp, putc, exBslice, lfill, exField, exIdxV, exIdxP, exBox, exAlloc, exLoad, exStore, exFieldA, exIdxA, exLen, exPick, exUn, exBeq, exMM, exSeq, seqGo, exExt, binV, intOp, subc, AV.solid, S0, encI, encB]
        refine CallR.pure k9 c1 (closed_B _) ?_
        by_cases z2 : h2 = []
        · subst z2
          simp [AW_seq, AW_reg, AW_regD, AW_block, AW_cond, AW_skip, AW_exit, AW_ret, AW_scp, condR_true, condR_false, AThen_normal, AThen_ret, AThen_exit, ABlock_normal, ABlock_ret, ABlock_exit, AScope_normal, AScope_ret, AScope_exit, RetK_ret, RetK_normal, retAV_one, retAV_two, retAV_three, retAV_nil, RG_nil, RG_op, RG_guard, gdR_tt, gdR_ff, gdR_tf, gdR_ft, gdR_un, RG_call, callQ_clo, contK_ap, opR_some, RD_nil, RD_op0, RD_op1, opD0_some, opD1_some, RD_call, callQD_clo, RD_guard, gdD_tt, gdD_ff, gdD_tf, gdD_ft, gdD_un, psh_nil, psh_cons, Apt_nil, Apt_nilT, Apt_true, Apt_false, Dis_def, runT_val, runT_rd, runT_wr, runT_new, runT_mv, ex, put_some, put_none, ev_t, ev_c, argF_zero, argF_succ, set_g, set_n, cells_v, cells_sl, cells_agg, cells_own, cells_ptr, cells_clo, cells_eptr, cells_mp, putc, exBslice, lfill, exField, exIdxV, exIdxP, exBox, exAlloc, exLoad, exStore, exFieldA, exIdxA, exLen, exPick, exUn, exBeq, exMM, exSeq, seqGo, exExt, binV, intOp, subc, AV.solid, S0, encI, encB]
          exact FzK_B true _
        · have p2 : 0 < h2.length := List.length_pos_iff.mpr z2
          simp [AW_seq, AW_reg, AW_regD, AW_block, AW_cond, AW_skip, AW_exit, AW_ret, AW_scp, condR_true, condR_false, AThen_normal, AThen_ret, AThen_exit, ABlock_normal, ABlock_ret, ABlock_exit, AScope_normal, AScope_ret, AScope_exit, RetK_ret, RetK_normal, retAV_one, retAV_two, retAV_three, retAV_nil, RG_nil, RG_op, RG_guard, gdR_tt, gdR_ff, gdR_tf, gdR_ft, gdR_un, RG_call, callQ_clo, contK_ap, opR_some, RD_nil, RD_op0, RD_op1, opD0_some, opD1_some, RD_call, callQD_clo, RD_guard, gdD_tt, gdD_ff, gdD_tf, gdD_ft, gdD_un, psh_nil, psh_cons, Apt_nil, Apt_nilT, Apt_true, Apt_false, Dis_def, runT_val, runT_rd, runT_wr, runT_new, runT_mv, ex, put_some, put_none, ev_t, ev_c, argF_zero, argF_succ, set_g, set_n, cells_v, cells_sl, cells_agg, cells_own, cells_ptr, cells_clo, cells_eptr, cells_mp, putc, exBslice, lfill, exField, exIdxV, exIdxP, exBox, exAlloc, exLoad, exStore, exFieldA, exIdxA, exLen, exPick, exUn, exBeq, exMM, exSeq, seqGo, exExt, binV, intOp, subc, AV.solid, S0, encI, encB, p2, z2]
          exact FzK_B true _
      · have p1 : 0 < h1.length := List.length_pos_iff.mpr z1
        simp [AW_seq, AW_reg, AW_regD, AW_block, AW_cond, AW_skip, AW_exit, AW_ret, AW_scp, condR_true, condR_false, AThen_normal, AThen_ret, AThen_exit, ABlock_normal, ABlock_ret, ABlock_exit, AScope_normal, AScope_ret, AScope_exit, RetK_ret, RetK_normal, retAV_one, retAV_two, retAV_three, retAV_nil, RG_nil, RG_op, RG_guard, gdR_tt, gdR_ff, gdR_tf, gdR_ft, gdR_un, RG_call, callQ_clo, contK_ap, opR_some, RD_nil, RD_op0, RD_op1, opD0_some, opD1_some, RD_call, callQD_clo, RD_guard, gdD_tt, gdD_ff, gdD_tf, gdD_ft, gdD_un, psh_nil, psh_cons, Apt_nil, Apt_nilT, Apt_true, Apt_false, Dis_def, runT_val, runT_rd, runT_wr, runT_new, runT_mv, ex, put_some, put_none, ev_t, ev_c, argF_zero, argF_succ, set_g, set_n, cells_v, cells_sl, cells_agg, cells_own, cells_ptr, cells_clo, cells_eptr, cells_mp, putc, exBslice, lfill, exField, exIdxV, exIdxP, exBox, exAlloc, exLoad, exStore, exFieldA, exIdxA, exLen, exPick, exUn, exBeq, exMM, exSeq, seqGo, exExt, binV, intOp, subc, AV.solid, S0, encI, encB, p1, z1]
        refine CallR.pure k9 c1 (closed_B _) ?_
        by_cases z2 : h2 = []
        · subst z2
          simp [AW_seq, AW_reg, AW_regD, AW_block, AW_cond, AW_skip, AW_exit, AW_ret, AW_scp, condR_true, condR_false, AThen_normal, AThen_ret, AThen_exit, ABlock_normal, ABlock_ret, ABlock_exit, AScope_normal, AScope_ret, AScope_exit, RetK_ret, RetK_normal, retAV_one, retAV_two, retAV_three, retAV_nil, RG_nil, RG_op, RG_guard, gdR_tt, gdR_ff, gdR_tf, gdR_ft, gdR_un, RG_call, callQ_clo, contK_ap, opR_some, RD_nil, RD_op0, RD_op1, opD0_some, opD1_some, RD_call, callQD_clo, RD_guard, gdD_tt, gdD_ff, gdD_tf, gdD_ft, gdD_un, psh_nil, psh_cons, Apt_nil, Apt_nilT, Apt_true, Apt_false, Dis_def, runT_val, runT_rd, runT_wr, runT_new, runT_mv, ex, put_some, put_none, ev_t, ev_c, argF_zero, argF_succ, set_g, set_n, cells_v, cells_sl, cells_agg, cells_own, cells_ptr, cells_clo, cells_eptr, cells_mp, putc, exBslice, lfill, exField, exIdxV, exIdxP, exBox, exAlloc, exLoad, exStore, exFieldA, exIdxA, exLen, exPick, exUn, exBeq, exMM, exSeq, seqGo, exExt, binV, intOp, subc, AV.solid, S0, encI, encB]
          exact FzK_B true _
        · have p2 : 0 < h2.length := List.length_pos_iff.mpr z2
          simp [AW_seq, AW_reg, AW_regD, AW_block, AW_cond, AW_skip, AW_exit, AW_ret, AW_scp, condR_true, condR_false, AThen_normal, AThen_ret, AThen_exit, ABlock_normal, ABlock_ret, ABlock_exit, AScope_normal, AScope_ret, AScope_exit, RetK_ret, RetK_normal, retAV_one, retAV_two, retAV_three, retAV_nil, RG_nil, RG_op, RG_guard, gdR_tt, gdR_ff, gdR_tf, gdR_ft, gdR_un, RG_call, callQ_clo, contK_ap, opR_some, RD_nil, RD_op0, RD_op1, opD0_some, opD1_some, RD_call, callQD_clo, RD_guard, gdD_tt, gdD_ff, gdD_tf, gdD_ft, gdD_un, psh_nil, psh_cons, Apt_nil, Apt_nilT, Apt_true, Apt_false, Dis_def, runT_val, runT_rd, runT_wr, runT_new, runT_mv, ex, put_some, put_none, ev_t, ev_c, argF_zero, argF_succ, set_g, set_n, cells_v, cells_sl, cells_agg, cells_own, cells_ptr, cells_clo, cells_eptr, cells_mp, putc, exBslice, lfill, exField, exIdxV, exIdxP, exBox, exAlloc, exLoad, exStore, exFieldA, exIdxA, exLen, exPick, exUn, exBeq, exMM, exSeq, seqGo, exExt, binV, intOp, subc, AV.solid, S0, encI, encB, p2, z2]
          exact FzK_B true _
end Go.Rf


/- Own work: BackTurns, gone through. -/
set_option linter.unusedVariables false
set_option linter.unusedSimpArgs false
namespace Go.Rf
open Go.RowKit

structure HTurn (P : Program) (n : Net) (l : List Int) (bt rr fa bh bl : FuncId) : Prop where
  kbt : PureC P bt [encNet n] (.tup [encNet (turnD n), encI (turnE n)])
  krr : PureC P rr [encNet n] (encB (rightN n))
  kbt2 : rightN n = true → PureC P bt [encNet (turnN n)] (.tup [encNet n, encI 0])
  krr2 : rightN n = true → PureC P rr [encNet (turnN n)] (encB true)
  kac : PureC P fa [encNet n, encIs l] (encB (accN n l))
  kac2 : rightN n = true → PureC P fa [encNet (turnN n), encIs l.reverse] (encB (accN n l))
  kbh : rightN n = true → PureC P bh [encNet (turnN n), encIs l.reverse] (encIs (headsN (turnN n) l.reverse))
  kbl : rightN n = true → PureC P bl [encNet n, encIs l] (encIs (headsN (turnN n) l.reverse))
end Go.Rf


/- Own work: BackHeads, gone through. -/
set_option linter.unusedVariables false
set_option linter.unusedSimpArgs false
namespace Go.Rf
open Go.RowKit

structure HHeads (P : Program) (n : Net) (l : List Int) (bh bl fa bd : FuncId) : Prop where
  kbh : ∀ k, k ≤ l.length → PureC P bh [encNet n, encIs (l.take k)] (encIs (headsN n (l.take k)))
  kbl : PureC P bl [encNet n, encIs l] (encIs (headsN (turnD n) l.reverse))
  kac : PureC P fa [encNet n, encIs l] (encB (accN n l))
  kbd : ∀ k, k ≤ l.length → PureC P bd [encNet n, encIs (l.take k)] (encB (decide (headsN n (l.take k) ≠ [])))
end Go.Rf

