import Derived.Test.YtgehkmifnjldfaaRfK4
import Derived.Test.YtgehkmifnjldfaaRfL10
/- Own work: what the net the other way round accepts. -/
set_option linter.unusedVariables false
set_option linter.unusedSimpArgs false
namespace Go.Rf
open Go.RowKit

theorem mem_rowT {n : Net} {i : Nat} {q : Int} : q ∈ rowT n i n.by_.length ↔ 1 ≤ q ∧ q < n.by_.length ∧ rowP n i q.toNat = true := by
  unfold rowT
  simp only [List.mem_map, List.mem_filter, List.mem_range, Bool.and_eq_true, decide_eq_true_eq]
  constructor
  · rintro ⟨k, ⟨h1, h2, h3⟩, rfl⟩
    refine ⟨by show (1 : Int) ≤ (k : Int); omega, by show (k : Int) < _; omega, ?_⟩
    show rowP n i ((k : Int).toNat) = true
    rw [Int.toNat_natCast]; exact h3
  · rintro ⟨h1, h2, h3⟩
    exact ⟨q.toNat, ⟨by omega, by omega, h3⟩, by show ((q.toNat : Nat) : Int) = q; omega⟩
theorem rowT_pw (n : Net) (i : Nat) : (rowT n i n.by_.length).Pairwise (· < ·) := by
  unfold rowT
  rw [List.pairwise_map]
  refine List.Pairwise.filter _ ?_
  exact (List.pairwise_lt_range (n := n.by_.length)).imp (fun {a b} h => by show (a : Int) < (b : Int); omega)
theorem turn_follow {n : Net} {i : Nat} (h : i < n.by_.length) : (turnN n).follow.getD i [] = rowT n i n.by_.length := by
  simp [turnN, List.getD_eq_getElem?_getD, h]
theorem follow_getD {n : Net} {i : Nat} (h : i < n.follow.length) : n.follow.getD i [] = n.follow[i] := by
  rw [List.getD_eq_getElem?_getD, List.getElem?_eq_getElem h]; rfl
theorem mem_lastT {n : Net} {q : Int} : q ∈ lastT n ↔ (q = 0 ∧ 0 ∈ n.last) ∨ q ∈ n.follow.getD 0 [] := by
  unfold lastT
  rw [List.mem_append]
  by_cases h : n.last.contains 0 = true
  · rw [if_pos h]
    have h' : (0 : Int) ∈ n.last := by simpa using h
    simp only [List.mem_singleton, h', and_true]
  · rw [if_neg h]
    have h' : ¬ (0 : Int) ∈ n.last := by simpa using h
    simp only [List.not_mem_nil, h', and_false]
theorem turn_right {n : Net} (R : RightN n) : RightN (turnN n) := by
  have hn1 := R.n1
  have hfl := R.len
  have h0 : 0 < n.follow.length := by omega
  have hf0 := R.follow 0 h0
  refine ⟨R.s1, R.s2, R.n1, R.n2, by simp [turnN], R.by0, ?_, R.by_, fun i h => ?_⟩
  · refine ⟨?_, fun x hx => ?_⟩
    · show (lastT n).Pairwise (· < ·)
      unfold lastT
      rw [follow_getD h0, List.pairwise_append]
      refine ⟨by split <;> simp, hf0.1, fun a ha b hb => ?_⟩
      have hb2 := hf0.2 b hb
      split at ha
      · simp at ha; omega
      · simp at ha
    · rcases mem_lastT.mp hx with ⟨rfl, _⟩ | hx
      · exact ⟨by omega, by show (0 : Int) < (n.by_.length : Nat); omega⟩
      · rw [follow_getD h0] at hx
        have := hf0.2 x hx
        exact ⟨by omega, this.2⟩
  · have e : (turnN n).follow[i] = rowT n i n.by_.length := by simp [turnN]
    rw [e]
    refine ⟨rowT_pw n i, fun x hx => ?_⟩
    have := mem_rowT.mp hx
    exact ⟨this.1, this.2.1⟩
theorem mem_turn {n : Net} (R : RightN n) {p q : Int} (hp : 0 ≤ p ∧ p < n.by_.length) : q ∈ (turnN n).follow.getD p.toNat [] ↔ 1 ≤ q ∧ q < n.by_.length ∧ (if p = 0 then q ∈ n.last else p ∈ n.follow.getD q.toNat []) := by
  rw [turn_follow (by omega), mem_rowT]
  refine and_congr_right (fun h1 => and_congr_right (fun h2 => ?_))
  unfold rowP
  have e1 : ((q.toNat : Nat) : Int) = q := by omega
  by_cases h0 : p = 0
  · subst h0
    rw [if_pos rfl, if_pos (by rfl), e1]
    exact List.contains_iff_mem
  · have e2 : ((p.toNat : Nat) : Int) = p := by omega
    rw [if_neg h0, if_neg (by omega), e2]
    exact List.contains_iff_mem
/-! ### what they accept -/
def edgeN (n : Net) (p q s : Int) : Prop := 0 ≤ p ∧ p < n.follow.length ∧ q ∈ n.follow.getD p.toNat [] ∧ behS n s q = true
theorem mem_stepN {n : Net} {a : List Int} {s q : Int} : q ∈ stepN n a s ↔ ∃ p ∈ a, edgeN n p q s := by
  unfold stepN behindL behind1 edgeN
  rw [mem_setF, List.mem_flatMap]
  constructor
  · rintro ⟨p, hp, h⟩
    split at h
    · rename_i hb
      have := List.mem_filter.mp h
      exact ⟨p, hp, hb.1, hb.2, this.1, this.2⟩
    · simp at h
  · rintro ⟨p, hp, h1, h2, h3, h4⟩
    exact ⟨p, hp, by rw [if_pos ⟨h1, h2⟩]; exact List.mem_filter.mpr ⟨h3, h4⟩⟩
def AccF (n : Net) : Int → List Int → Prop
  | p, [] => p ∈ n.last
  | p, s :: l => ∃ q, edgeN n p q s ∧ AccF n q l
theorem acc_fold {n : Net} : ∀ (l a : List Int), (∃ q ∈ l.foldl (stepN n) a, q ∈ n.last) ↔ ∃ p ∈ a, AccF n p l
  | [], a => Iff.rfl
  | s :: l, a => by
    rw [List.foldl_cons, acc_fold l (stepN n a s)]
    constructor
    · rintro ⟨q, h1, h2⟩
      obtain ⟨p, h3, h4⟩ := mem_stepN.mp h1
      exact ⟨p, h3, q, h4, h2⟩
    · rintro ⟨p, h3, q, h4, h2⟩
      exact ⟨q, mem_stepN.mpr ⟨p, h3, h4⟩, h2⟩
theorem accN_iff {n : Net} {l : List Int} : accN n l = true ↔ rightN n = true ∧ AccF n 0 l := by
  unfold accN runN
  rw [Bool.and_eq_true, List.any_eq_true]
  refine and_congr_right (fun _ => ?_)
  have := acc_fold (n := n) l [0]
  simp only [List.mem_singleton, exists_eq_left] at this
  rw [← this]
  constructor
  · rintro ⟨q, h1, h2⟩; exact ⟨q, h1, by simpa using h2⟩
  · rintro ⟨q, h1, h2⟩; exact ⟨q, h1, by simpa using h2⟩
theorem runN_snoc (n : Net) (l : List Int) (s : Int) : runN n (l ++ [s]) = stepN n (runN n l) s := by
  unfold runN; rw [List.foldl_append]; rfl
theorem edge_ge {n : Net} (R : RightN n) {p q s : Int} (h : edgeN n p q s) : 1 ≤ q ∧ q < n.by_.length := by
  obtain ⟨h1, h2, h3, _⟩ := h
  rw [follow_getD (by omega)] at h3
  exact (R.follow p.toNat (by omega)).2 q h3
theorem rev_run {n : Net} (R : RightN n) : ∀ (l : List Int) (s q : Int), 1 ≤ q → (q ∈ runN n (l.reverse ++ [s]) ↔ behS n s q = true ∧ AccF (turnN n) q l)
  | [], s, q, hq => by
    have hn1 := R.n1
    have hfl := R.len
    rw [runN_snoc, mem_stepN]
    show (∃ p ∈ [0], edgeN n p q s) ↔ _ ∧ q ∈ lastT n
    rw [mem_lastT]
    simp only [List.mem_singleton, exists_eq_left]
    unfold edgeN
    constructor
    · rintro ⟨_, _, h3, h4⟩; exact ⟨h4, .inr h3⟩
    · rintro ⟨h4, h | h⟩
      · omega
      · exact ⟨by omega, by omega, h, h4⟩
  | s' :: l, s, q, hq => by
    have hn1 := R.n1
    have hfl := R.len
    have ih := rev_run R l s'
    have R2 := turn_right R
    have hf2 := R2.len
    have hb2 : (turnN n).by_.length = n.by_.length := rfl
    rw [List.reverse_cons, runN_snoc, mem_stepN]
    constructor
    · rintro ⟨p, h1, h2⟩
      have hp : 1 ≤ p := by
        rw [runN_snoc, mem_stepN] at h1
        obtain ⟨p', _, h⟩ := h1
        exact (edge_ge R h).1
      have hq2 := (edge_ge R h2).2
      obtain ⟨h3, h4⟩ := (ih p hp).mp h1
      refine ⟨h2.2.2.2, p, ⟨by omega, by omega, ?_, h3⟩, h4⟩
      rw [mem_turn R (by omega), if_neg (by omega)]
      exact ⟨hp, by have := h2.2.1; omega, h2.2.2.1⟩
    · rintro ⟨h1, p, ⟨h2, h3, h4, h5⟩, h6⟩
      rw [mem_turn R (by omega), if_neg (by omega)] at h4
      refine ⟨p, (ih p h4.1).mpr ⟨h5, h6⟩, by omega, by omega, h4.2.2, h1⟩
theorem acc_turn {n : Net} (hr : rightN n = true) (l : List Int) : accN (turnN n) l.reverse = accN n l := by
  have R := (rightN_iff n).mp hr
  have hr2 : rightN (turnN n) = true := (rightN_iff _).mpr (turn_right R)
  have hn1 := R.n1
  have hfl := R.len
  have h0 : 0 < n.follow.length := by omega
  have hb2 : (turnN n).by_.length = n.by_.length := rfl
  have hf2 := (turn_right R).len
  rw [Bool.eq_iff_iff]
  rw [accN_iff, accN_iff, hr, hr2]
  simp only [true_and]
  rcases List.eq_nil_or_concat l with rfl | ⟨l', s, rfl⟩
  · show 0 ∈ lastT n ↔ 0 ∈ n.last
    rw [mem_lastT]
    constructor
    · rintro (⟨_, h⟩ | h)
      · exact h
      · rw [follow_getD h0] at h; have := (R.follow 0 h0).2 0 h; omega
    · intro h; exact .inl ⟨rfl, h⟩
  · rw [List.concat_eq_append, List.reverse_append]
    have key := acc_fold (n := n) (l' ++ [s]) [0]
    simp only [List.mem_singleton, exists_eq_left] at key
    rw [← key]
    show (∃ q, edgeN (turnN n) 0 q s ∧ AccF (turnN n) q l'.reverse) ↔ ∃ q ∈ runN n (l' ++ [s]), q ∈ n.last
    have hrv := rev_run R l'.reverse s
    rw [List.reverse_reverse] at hrv
    constructor
    · rintro ⟨q, ⟨h1, h2, h3, h4⟩, h5⟩
      have h3' := (mem_turn R (p := 0) (q := q) (by omega)).mp h3
      rw [if_pos rfl] at h3'
      exact ⟨q, (hrv q h3'.1).mpr ⟨h4, h5⟩, h3'.2.2⟩
    · rintro ⟨q, h1, h2⟩
      have hq : 1 ≤ q := by
        rw [runN_snoc, mem_stepN] at h1
        obtain ⟨p', _, h⟩ := h1
        exact (edge_ge R h).1
      obtain ⟨h3, h4⟩ := (hrv q hq).mp h1
      have hl := R.last.2 q h2
      refine ⟨q, ⟨by omega, by omega, (mem_turn R (p := 0) (q := q) (by omega)).mpr ?_, h3⟩, h4⟩
      rw [if_pos rfl]
      exact ⟨hq, hl.2, h2⟩
theorem accN_wrong {n : Net} (h : rightN n = false) (l : List Int) : accN n l = false := by unfold accN; rw [h]; rfl
theorem headsN_eq (n : Net) (l : List Int) : headsN n l = filtL (hdP n l) (l.length + 1) := by
  unfold headsN
  cases h : rightN n with
  | true => rw [if_pos rfl]; rfl
  | false =>
    rw [if_neg (by simp)]
    symm
    unfold filtL
    rw [List.filter_eq_nil_iff.mpr (fun k _ => by unfold hdP; rw [accN_wrong h]; simp)]; rfl
end Go.Rf


/- Own work: the laws of layer 14, gone through. -/
set_option linter.unusedVariables false
set_option linter.unusedSimpArgs false
namespace Go.Rf
open Go.RowKit

def c_caesuralaw14_accepts (f_caesuraref13_Accepts : FuncId) : AC :=
  (.seq (.reg none [
   ⟨(some 2), .box 4 (.t 0), none, none⟩,
   ⟨(some 4), .mv (.c (.v (.bool false))), none, none⟩])
  (.seq (.reg none [
   ⟨(some 5), .load (some 4) (.t 2), none, none⟩,
   ⟨(some 6), .mv (.t 1), none, none⟩,
   ⟨(some 7), .mv (.c .junk), none, (some ((.c (.clo f_caesuraref13_Accepts [] [])), [(.t 5), (.t 6)]))⟩,
   ⟨(some 4), .mv (.t 7), none, none⟩])
  .ret))
theorem accepts14_body {P : Program} {fa : FuncId} (n : Net) (l : List Int) (r : Bool) (h : PureC P fa [encNet n, encIs l] (encB r)) : AW P (c_caesuralaw14_accepts fa) (RetK [4] (FzK (encB r))) (argF [encNet n, encIs l]) S0 := by
  have c := cl_cons (closed_Net n) (cl_cons (Z2s l) cl_nil)
  simp only [encNet, encIs, encIss] at h c
  simp [Z0h, Z0c, Z0d, Z09, Z0a, Z0i, Z0b, Z0f, Z0g, Z2z, Z2y, Z07, Z08, Z06, Z01, Z02, Z00, Z04, Z05, Z03, Z1z, Z1y, Z46, Z48, Z47, Z45, Z1n, Z1o, Z1m, Z3n, Z3k, Z3m, Z3l, Z3o, Z1l, Z29, Z32, Z3x, Z1i, Z1j, Z1k, Z3v, Z3w, Z1g, Z28, Z1h, Z3i, Z3f, Z3h, Z3g, Z3j, Z41, Z40, Z0t, Z0u, Z0v, Z0s, Z1f, Z4c, Z4b, Z4d, Z4a, Z49, ex, Z43, Z42, ev_t, ev_c, Z27, Z26, Z4e, Z4f, Z2m, Z2l, Z2f, Z2j, Z2k, Z2g, Z2h, Z2i, putc, exBslice, lfill, exField, exIdxV, exIdxP, exBox, exAlloc, exLoad, exStore, exFieldA, exIdxA, exLen, exPick, exUn, exBeq, exMM, exSeq, seqGo, exExt, binV, intOp, subc, AV.solid, S0, encI, encB, c_caesuralaw14_accepts, encNet, encIss, encIs]
  refine CallR.pure h c (Z2o _) ?_
  simp [Z0h, Z0c, Z0d, Z09, Z0a, Z0i, Z0b, Z0f, Z0g, Z2z, Z2y, Z07, Z08, Z06, Z01, Z02, Z00, Z04, Z05, Z03, Z1z, Z1y, Z46, Z48, Z47, Z45, Z1n, Z1o, Z1m, Z3n, Z3k, Z3m, Z3l, Z3o, Z1l, Z29, Z32, Z3x, Z1i, Z1j, Z1k, Z3v, Z3w, Z1g, Z28, Z1h, Z3i, Z3f, Z3h, Z3g, Z3j, Z41, Z40, Z0t, Z0u, Z0v, Z0s, Z1f, Z4c, Z4b, Z4d, Z4a, Z49, ex, Z43, Z42, ev_t, ev_c, Z27, Z26, Z4e, Z4f, Z2m, Z2l, Z2f, Z2j, Z2k, Z2g, Z2h, Z2i, putc, exBslice, lfill, exField, exIdxV, exIdxP, exBox, exAlloc, exLoad, exStore, exFieldA, exIdxA, exLen, exPick, exUn, exBeq, exMM, exSeq, seqGo, exExt, binV, intOp, subc, AV.solid, S0, encI, encB]
  exact FzK_B _ _
structure HBack (P : Program) (n : Net) (l : List Int) (bt rt rh rl fs bh bl bd be : FuncId) : Prop where
  bt : PureC P bt [encNet n] (.tup [encNet (turnD n), encI (turnE n)])
  rt : PureC P rt [encNet n] (.tup [encNet (turnD n), encI (turnE n)])
  rh : PureC P rh [encNet n, encIs l] (encIs (filtL (hdP n l) (l.length + 1)))
  rl : PureC P rl [encNet n, encIs l] (encIs (filtL (tlP n l) (l.length + 1)))
  fs : PureC P fs [encNet (turnD n), encNet (turnD n)] (encB true)
  bh : PureC P bh [encNet n, encIs l] (encIs (headsN n l))
  bl : PureC P bl [encNet n, encIs l] (encIs (headsN (turnD n) l.reverse))
  bd : PureC P bd [encNet n, encIs l] (encB (decide (headsN n l ≠ [])))
  be : PureC P be [encNet n, encIs l] (encB (decide (headsN (turnD n) l.reverse ≠ [])))
end Go.Rf


/- Own work: BackTurns, gone through. -/
set_option linter.unusedVariables false
set_option linter.unusedSimpArgs false
namespace Go.Rf
open Go.RowKit

structure HTurn (P : Program) (n : Net) (l : List Int) (bt rr fa bh bl : FuncId) : Prop where
  kbt : PureC P bt [encNet n] (.tup [encNet (turnD n), encI (turnE n)])
  krr : PureC P rr [encNet n] (encB (rightN n))
  kbt2 : rightN n = true → PureC P bt [encNet (turnN n)] (.tup [encNet n, encI 0])
  krr2 : rightN n = true → PureC P rr [encNet (turnN n)] (encB true)
  kac : PureC P fa [encNet n, encIs l] (encB (accN n l))
  kac2 : rightN n = true → PureC P fa [encNet (turnN n), encIs l.reverse] (encB (accN n l))
  kbh : rightN n = true → PureC P bh [encNet (turnN n), encIs l.reverse] (encIs (headsN (turnN n) l.reverse))
  kbl : rightN n = true → PureC P bl [encNet n, encIs l] (encIs (headsN (turnN n) l.reverse))
end Go.Rf


/- Own work: BackHeads, gone through. -/
set_option linter.unusedVariables false
set_option linter.unusedSimpArgs false
namespace Go.Rf
open Go.RowKit

structure HHeads (P : Program) (n : Net) (l : List Int) (bh bl fa bd : FuncId) : Prop where
  kbh : ∀ k, k ≤ l.length → PureC P bh [encNet n, encIs (l.take k)] (encIs (headsN n (l.take k)))
  kbl : PureC P bl [encNet n, encIs l] (encIs (headsN (turnD n) l.reverse))
  kac : PureC P fa [encNet n, encIs l] (encB (accN n l))
  kbd : ∀ k, k ≤ l.length → PureC P bd [encNet n, encIs (l.take k)] (encB (decide (headsN n (l.take k) ≠ [])))
end Go.Rf

