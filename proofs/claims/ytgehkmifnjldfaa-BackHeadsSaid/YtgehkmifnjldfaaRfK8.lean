import Derived.Test.YtgehkmifnjldfaaRfK4
import Derived.Test.YtgehkmifnjldfaaRfKl
/- Own work: what the net the other way round accepts. -/
set_option linter.unusedVariables false
set_option linter.unusedSimpArgs false
namespace Go.Rf
open Go.RowKit

theorem mem_rowT {n : Net} {i : Nat} {q : Int} : q ∈ rowT n i n.by_.length ↔ 1 ≤ q ∧ q < n.by_.length ∧ rowP n i q.toNat = true := by
  unfold rowT
  simp only [List.mem_map, List.mem_filter, List.mem_range, Bool.and_eq_true, decide_eq_true_eq]
  constructor
  · rintro ⟨k, ⟨h1, h2, h3⟩, rfl⟩
    refine ⟨by show (1 : Int) ≤ (k : Int); omega, by show (k : Int) < _; omega, ?_⟩
    show rowP n i ((k : Int).toNat) = true
    rw [Int.toNat_natCast]; exact h3
  · rintro ⟨h1, h2, h3⟩
    exact ⟨q.toNat, ⟨by omega, by omega, h3⟩, by show ((q.toNat : Nat) : Int) = q; omega⟩
theorem rowT_pw (n : Net) (i : Nat) : (rowT n i n.by_.length).Pairwise (· < ·) := by
  unfold rowT
  rw [List.pairwise_map]
  refine List.Pairwise.filter _ ?_
  exact (List.pairwise_lt_range (n := n.by_.length)).imp (fun {a b} h => by show (a : Int) < (b : Int); omega)
theorem turn_follow {n : Net} {i : Nat} (h : i < n.by_.length) : (turnN n).follow.getD i [] = rowT n i n.by_.length := by
  simp [turnN, List.getD_eq_getElem?_getD, h]
theorem follow_getD {n : Net} {i : Nat} (h : i < n.follow.length) : n.follow.getD i [] = n.follow[i] := by
  rw [List.getD_eq_getElem?_getD, List.getElem?_eq_getElem h]; rfl
theorem mem_lastT {n : Net} {q : Int} : q ∈ lastT n ↔ (q = 0 ∧ 0 ∈ n.last) ∨ q ∈ n.follow.getD 0 [] := by
  unfold lastT
  rw [List.mem_append]
  by_cases h : n.last.contains 0 = true
  · rw [if_pos h]
    have h' : (0 : Int) ∈ n.last := by simpa using h
    simp only [List.mem_singleton, h', and_true]
  · rw [if_neg h]
    have h' : ¬ (0 : Int) ∈ n.last := by simpa using h
    simp only [List.not_mem_nil, h', and_false]
theorem turn_right {n : Net} (R : RightN n) : RightN (turnN n) := by
  have hn1 := R.n1
  have hfl := R.len
  have h0 : 0 < n.follow.length := by omega
  have hf0 := R.follow 0 h0
  refine ⟨R.s1, R.s2, R.n1, R.n2, by simp [turnN], R.by0, ?_, R.by_, fun i h => ?_⟩
  · refine ⟨?_, fun x hx => ?_⟩
    · show (lastT n).Pairwise (· < ·)
      unfold lastT
      rw [follow_getD h0, List.pairwise_append]
      refine ⟨by split <;> simp, hf0.1, fun a ha b hb => ?_⟩
      have hb2 := hf0.2 b hb
      split at ha
      · simp at ha; omega
      · simp at ha
    · rcases mem_lastT.mp hx with ⟨rfl, _⟩ | hx
      · exact ⟨by omega, by show (0 : Int) < (n.by_.length : Nat); omega⟩
      · rw [follow_getD h0] at hx
        have := hf0.2 x hx
        exact ⟨by omega, this.2⟩
  · have e : (turnN n).follow[i] = rowT n i n.by_.length := by simp [turnN]
    rw [e]
    refine ⟨rowT_pw n i, fun x hx => ?_⟩
    have := mem_rowT.mp hx
    exact ⟨this.1, this.2.1⟩
theorem mem_turn {n : Net} (R : RightN n) {p q : Int} (hp : 0 ≤ p ∧ p < n.by_.length) : q ∈ (turnN n).follow.getD p.toNat [] ↔ 1 ≤ q ∧ q < n.by_.length ∧ (if p = 0 then q ∈ n.last else p ∈ n.follow.getD q.toNat []) := by
  rw [turn_follow (by omega), mem_rowT]
  refine and_congr_right (fun h1 => and_congr_right (fun h2 => ?_))
  unfold rowP
  have e1 : ((q.toNat : Nat) : Int) = q := by omega
  by_cases h0 : p = 0
  · subst h0
    rw [if_pos rfl, if_pos (by rfl), e1]
    exact List.contains_iff_mem
  · have e2 : ((p.toNat : Nat) : Int) = p := by omega
    rw [if_neg h0, if_neg (by omega), e2]
    exact List.contains_iff_mem
/-! ### what they accept -/
def edgeN (n : Net) (p q s : Int) : Prop := 0 ≤ p ∧ p < n.follow.length ∧ q ∈ n.follow.getD p.toNat [] ∧ behS n s q = true
theorem mem_stepN {n : Net} {a : List Int} {s q : Int} : q ∈ stepN n a s ↔ ∃ p ∈ a, edgeN n p q s := by
  unfold stepN behindL behind1 edgeN
  rw [mem_setF, List.mem_flatMap]
  constructor
  · rintro ⟨p, hp, h⟩
    split at h
    · rename_i hb
      have := List.mem_filter.mp h
      exact ⟨p, hp, hb.1, hb.2, this.1, this.2⟩
    · simp at h
  · rintro ⟨p, hp, h1, h2, h3, h4⟩
    exact ⟨p, hp, by rw [if_pos ⟨h1, h2⟩]; exact List.mem_filter.mpr ⟨h3, h4⟩⟩
def AccF (n : Net) : Int → List Int → Prop
  | p, [] => p ∈ n.last
  | p, s :: l => ∃ q, edgeN n p q s ∧ AccF n q l
theorem acc_fold {n : Net} : ∀ (l a : List Int), (∃ q ∈ l.foldl (stepN n) a, q ∈ n.last) ↔ ∃ p ∈ a, AccF n p l
  | [], a => Iff.rfl
  | s :: l, a => by
    rw [List.foldl_cons, acc_fold l (stepN n a s)]
    constructor
    · rintro ⟨q, h1, h2⟩
      obtain ⟨p, h3, h4⟩ := mem_stepN.mp h1
      exact ⟨p, h3, q, h4, h2⟩
    · rintro ⟨p, h3, q, h4, h2⟩
      exact ⟨q, mem_stepN.mpr ⟨p, h3, h4⟩, h2⟩
theorem accN_iff {n : Net} {l : List Int} : accN n l = true ↔ rightN n = true ∧ AccF n 0 l := by
  unfold accN runN
  rw [Bool.and_eq_true, List.any_eq_true]
  refine and_congr_right (fun _ => ?_)
  have := acc_fold (n := n) l [0]
  simp only [List.mem_singleton, exists_eq_left] at this
  rw [← this]
  constructor
  · rintro ⟨q, h1, h2⟩; exact ⟨q, h1, by simpa using h2⟩
  · rintro ⟨q, h1, h2⟩; exact ⟨q, h1, by simpa using h2⟩
theorem runN_snoc (n : Net) (l : List Int) (s : Int) : runN n (l ++ [s]) = stepN n (runN n l) s := by
  unfold runN; rw [List.foldl_append]; rfl
theorem edge_ge {n : Net} (R : RightN n) {p q s : Int} (h : edgeN n p q s) : 1 ≤ q ∧ q < n.by_.length := by
  obtain ⟨h1, h2, h3, _⟩ := h
  rw [follow_getD (by omega)] at h3
  exact (R.follow p.toNat (by omega)).2 q h3
theorem rev_run {n : Net} (R : RightN n) : ∀ (l : List Int) (s q : Int), 1 ≤ q → (q ∈ runN n (l.reverse ++ [s]) ↔ behS n s q = true ∧ AccF (turnN n) q l)
  | [], s, q, hq => by
    have hn1 := R.n1
    have hfl := R.len
    rw [runN_snoc, mem_stepN]
    show (∃ p ∈ [0], edgeN n p q s) ↔ _ ∧ q ∈ lastT n
    rw [mem_lastT]
    simp only [List.mem_singleton, exists_eq_left]
    unfold edgeN
    constructor
    · rintro ⟨_, _, h3, h4⟩; exact ⟨h4, .inr h3⟩
    · rintro ⟨h4, h | h⟩
      · omega
      · exact ⟨by omega, by omega, h, h4⟩
  | s' :: l, s, q, hq => by
    have hn1 := R.n1
    have hfl := R.len
    have ih := rev_run R l s'
    have R2 := turn_right R
    have hf2 := R2.len
    have hb2 : (turnN n).by_.length = n.by_.length := rfl
    rw [List.reverse_cons, runN_snoc, mem_stepN]
    constructor
    · rintro ⟨p, h1, h2⟩
      have hp : 1 ≤ p := by
        rw [runN_snoc, mem_stepN] at h1
        obtain ⟨p', _, h⟩ := h1
        exact (edge_ge R h).1
      have hq2 := (edge_ge R h2).2
      obtain ⟨h3, h4⟩ := (ih p hp).mp h1
      refine ⟨h2.2.2.2, p, ⟨by omega, by omega, ?_, h3⟩, h4⟩
      rw [mem_turn R (by omega), if_neg (by omega)]
      exact ⟨hp, by have := h2.2.1; omega, h2.2.2.1⟩
    · rintro ⟨h1, p, ⟨h2, h3, h4, h5⟩, h6⟩
      rw [mem_turn R (by omega), if_neg (by omega)] at h4
      refine ⟨p, (ih p h4.1).mpr ⟨h5, h6⟩, by omega, by omega, h4.2.2, h1⟩
theorem acc_turn {n : Net} (hr : rightN n = true) (l : List Int) : accN (turnN n) l.reverse = accN n l := by
  have R := (rightN_iff n).mp hr
  have hr2 : rightN (turnN n) = true := (rightN_iff _).mpr (turn_right R)
  have hn1 := R.n1
  have hfl := R.len
  have h0 : 0 < n.follow.length := by omega
  have hb2 : (turnN n).by_.length = n.by_.length := rfl
  have hf2 := (turn_right R).len
  rw [Bool.eq_iff_iff]
  rw [accN_iff, accN_iff, hr, hr2]
  simp only [true_and]
  rcases List.eq_nil_or_concat l with rfl | ⟨l', s, rfl⟩
  · show 0 ∈ lastT n ↔ 0 ∈ n.last
    rw [mem_lastT]
    constructor
    · rintro (⟨_, h⟩ | h)
      · exact h
      · rw [follow_getD h0] at h; have := (R.follow 0 h0).2 0 h; omega
    · intro h; exact .inl ⟨rfl, h⟩
  · rw [List.concat_eq_append, List.reverse_append]
    have key := acc_fold (n := n) (l' ++ [s]) [0]
    simp only [List.mem_singleton, exists_eq_left] at key
    rw [← key]
    show (∃ q, edgeN (turnN n) 0 q s ∧ AccF (turnN n) q l'.reverse) ↔ ∃ q ∈ runN n (l' ++ [s]), q ∈ n.last
    have hrv := rev_run R l'.reverse s
    rw [List.reverse_reverse] at hrv
    constructor
    · rintro ⟨q, ⟨h1, h2, h3, h4⟩, h5⟩
      have h3' := (mem_turn R (p := 0) (q := q) (by omega)).mp h3
      rw [if_pos rfl] at h3'
      exact ⟨q, (hrv q h3'.1).mpr ⟨h4, h5⟩, h3'.2.2⟩
    · rintro ⟨q, h1, h2⟩
      have hq : 1 ≤ q := by
        rw [runN_snoc, mem_stepN] at h1
        obtain ⟨p', _, h⟩ := h1
        exact (edge_ge R h).1
      obtain ⟨h3, h4⟩ := (hrv q hq).mp h1
      have hl := R.last.2 q h2
      refine ⟨q, ⟨by omega, by omega, (mem_turn R (p := 0) (q := q) (by omega)).mpr ?_, h3⟩, h4⟩
      rw [if_pos rfl]
      exact ⟨hq, hl.2, h2⟩
theorem turnD_right (n : Net) : rightN (turnD n) = rightN n := by
  unfold turnD
  by_cases h : rightN n = true
  · rw [if_pos h, h]; exact (rightN_iff _).mpr (turn_right ((rightN_iff _).mp h))
  · rw [if_neg h]
    have : rightN n = false := by simpa using h
    rw [this]
    rfl
theorem accN_wrong {n : Net} (h : rightN n = false) (l : List Int) : accN n l = false := by unfold accN; rw [h]; rfl
theorem acc_turnD (n : Net) (l : List Int) : accN (turnD n) l.reverse = accN n l := by
  cases h : rightN n with
  | true => unfold turnD; rw [if_pos h]; exact acc_turn h l
  | false => rw [accN_wrong h, accN_wrong (by rw [turnD_right, h])]
theorem filtL_congr {p q : Nat → Bool} {i : Nat} (h : ∀ k, k < i → p k = q k) : filtL p i = filtL q i := by
  unfold filtL
  rw [List.filter_congr (fun k hk => h k (by simpa using hk))]
theorem headsN_eq (n : Net) (l : List Int) : headsN n l = filtL (hdP n l) (l.length + 1) := by
  unfold headsN
  cases h : rightN n with
  | true => rw [if_pos rfl]; rfl
  | false =>
    rw [if_neg (by simp)]
    symm
    unfold filtL
    rw [List.filter_eq_nil_iff.mpr (fun k _ => by unfold hdP; rw [accN_wrong h]; simp)]; rfl
theorem tails_eq (n : Net) (l : List Int) : headsN (turnD n) l.reverse = filtL (tlP n l) (l.length + 1) := by
  rw [headsN_eq, List.length_reverse]
  refine filtL_congr (fun k hk => ?_)
  unfold hdP tlP
  have hk2 : l.length - (l.length - k) = k := by omega
  have e : l.reverse.take k = (l.drop (l.length - k)).reverse := by rw [List.reverse_drop, hk2]
  rw [e, acc_turnD]
end Go.Rf


/- Own work: the laws of layer 14, gone through. -/
set_option linter.unusedVariables false
set_option linter.unusedSimpArgs false
namespace Go.Rf
open Go.RowKit

def c_caesuralaw14_accepts (f_caesuraref13_Accepts : FuncId) : AC :=
  (.seq (.reg none [
   ⟨(some 2), .box 4 (.t 0), none, none⟩,
   ⟨(some 4), .mv (.c (.v (.bool false))), none, none⟩])
  (.seq (.reg none [
   ⟨(some 5), .load (some 4) (.t 2), none, none⟩,
   ⟨(some 6), .mv (.t 1), none, none⟩,
   ⟨(some 7), .mv (.c .junk), none, (some ((.c (.clo f_caesuraref13_Accepts [] [])), [(.t 5), (.t 6)]))⟩,
   ⟨(some 4), .mv (.t 7), none, none⟩])
  .ret))
theorem accepts14_body {P : Program} {fa : FuncId} (n : Net) (l : List Int) (r : Bool) (h : PureC P fa [encNet n, encIs l] (encB r)) : AW P (c_caesuralaw14_accepts fa) (RetK [4] (FzK (encB r))) (argF [encNet n, encIs l]) S0 := by
  have c := cl_cons (closed_Net n) (cl_cons (closed_Is l) cl_nil)
  simp only [encNet, encIs, encIss] at h c
  simp [AW_seq, AW_reg, AW_regD, AW_block, AW_cond, AW_skip, AW_exit, AW_ret, AW_scp, condR_true, condR_false, AThen_normal, AThen_ret, AThen_exit, ABlock_normal, ABlock_ret, ABlock_exit, AScope_normal, AScope_ret, AScope_exit, RetK_ret, RetK_normal, retAV_one, retAV_two, retAV_three, retAV_nil, RG_nil, RG_op, RG_guard, gdR_tt, gdR_ff, gdR_tf, gdR_ft, gdR_un, RG_call, callQ_clo, contK_ap, opR_some, RD_nil, RD_op0, RD_op1, opD0_some, opD1_some, RD_call, callQD_clo, RD_guard, gdD_tt, gdD_ff, gdD_tf, gdD_ft, gdD_un, psh_nil, psh_cons, Apt_nil, Apt_nilT, Apt_true, Apt_false, Dis_def, runT_val, runT_rd, runT_wr, runT_new, runT_mv, ex, put_some, put_none, ev_t, ev_c, argF_zero, argF_succ, set_g, set_n, cells_v, cells_sl, cells_agg, cells_own, cells_ptr, cells_clo, cells_eptr, cells_mp, putc, exBslice, lfill, exField, exIdxV, exIdxP, exBox, exAlloc, exLoad, exStore, exFieldA, exIdxA, exLen, exPick, exUn, exBeq, exMM, exSeq, seqGo, exExt, binV, intOp, subc, AV.solid, S0, encI, encB, c_caesuralaw14_accepts, encNet, encIss, encIs]
  refine CallR.pure h c (closed_B _) ?_
  simp [AW_seq, AW_reg, AW_regD, AW_block, AW_cond, AW_skip, AW_exit, AW_ret, AW_scp, condR_true, condR_false, AThen_normal, AThen_ret, AThen_exit, ABlock_normal, ABlock_ret, ABlock_exit, AScope_normal, AScope_ret, AScope_exit, RetK_ret, RetK_normal, retAV_one, retAV_two, retAV_three, retAV_nil, RG_nil, RG_op, RG_guard, gdR_tt, gdR_ff, gdR_tf, gdR_ft, gdR_un, RG_call, callQ_clo, contK_ap, opR_some, RD_nil, RD_op0, RD_op1, opD0_some, opD1_some, RD_call, callQD_clo, RD_guard, gdD_tt, gdD_ff, gdD_tf, gdD_ft, gdD_un, psh_nil, psh_cons, Apt_nil, Apt_nilT, Apt_true, Apt_false, Dis_def, runT_val, runT_rd, runT_wr, runT_new, runT_mv, ex, put_some, put_none, ev_t, ev_c, argF_zero, argF_succ, set_g, set_n, cells_v, cells_sl, cells_agg, cells_own, cells_ptr, cells_clo, cells_eptr, cells_mp, putc, exBslice, lfill, exField, exIdxV, exIdxP, exBox, exAlloc, exLoad, exStore, exFieldA, exIdxA, exLen, exPick, exUn, exBeq, exMM, exSeq, seqGo, exExt, binV, intOp, subc, AV.solid, S0, encI, encB]
  exact FzK_B _ _
structure HBack (P : Program) (n : Net) (l : List Int) (bt rt rh rl fs bh bl bd be : FuncId) : Prop where
  bt : PureC P bt [encNet n] (.tup [encNet (turnD n), encI (turnE n)])
  rt : PureC P rt [encNet n] (.tup [encNet (turnD n), encI (turnE n)])
  rh : PureC P rh [encNet n, encIs l] (encIs (filtL (hdP n l) (l.length + 1)))
  rl : PureC P rl [encNet n, encIs l] (encIs (filtL (tlP n l) (l.length + 1)))
  fs : PureC P fs [encNet (turnD n), encNet (turnD n)] (encB true)
  bh : PureC P bh [encNet n, encIs l] (encIs (headsN n l))
  bl : PureC P bl [encNet n, encIs l] (encIs (headsN (turnD n) l.reverse))
  bd : PureC P bd [encNet n, encIs l] (encB (decide (headsN n l ≠ [])))
  be : PureC P be [encNet n, encIs l] (encB (decide (headsN (turnD n) l.reverse ≠ [])))
end Go.Rf


/- Own work: BackTurns, gone through. -/
set_option linter.unusedVariables false
set_option linter.unusedSimpArgs false
namespace Go.Rf
open Go.RowKit

structure HTurn (P : Program) (n : Net) (l : List Int) (bt rr fa bh bl : FuncId) : Prop where
  kbt : PureC P bt [encNet n] (.tup [encNet (turnD n), encI (turnE n)])
  krr : PureC P rr [encNet n] (encB (rightN n))
  kbt2 : rightN n = true → PureC P bt [encNet (turnN n)] (.tup [encNet n, encI 0])
  krr2 : rightN n = true → PureC P rr [encNet (turnN n)] (encB true)
  kac : PureC P fa [encNet n, encIs l] (encB (accN n l))
  kac2 : rightN n = true → PureC P fa [encNet (turnN n), encIs l.reverse] (encB (accN n l))
  kbh : rightN n = true → PureC P bh [encNet (turnN n), encIs l.reverse] (encIs (headsN (turnN n) l.reverse))
  kbl : rightN n = true → PureC P bl [encNet n, encIs l] (encIs (headsN (turnN n) l.reverse))
end Go.Rf


/- Own work: BackHeads, gone through. -/
set_option linter.unusedVariables false
set_option linter.unusedSimpArgs false
namespace Go.Rf
open Go.RowKit

def c_bhd_loop : AC :=
  (.block 0 (.loop (.seq (.seq (.reg none [
     ⟨(some 37), .mv (.t 10), none, none⟩,
     ⟨(some 38), .mv (.t 8), none, none⟩,
     ⟨(some 39), .len (.t 38), none, none⟩,
     ⟨(some 40), .bin .lss (.t 37) (.t 39), none, none⟩,
     ⟨(some 41), .mv (.t 40), none, none⟩,
     ⟨(some 42), .mv (.t 8), (some (41, true)), none⟩,
     ⟨(some 43), .mv (.t 10), (some (41, true)), none⟩,
     ⟨(some 44), .idxA 1 (.t 42) (.t 43), (some (41, true)), none⟩,
     ⟨(some 45), .load none (.t 44), (some (41, true)), none⟩,
     ⟨(some 46), .mv (.t 7), (some (41, true)), none⟩,
     ⟨(some 47), .bin .leq (.t 45) (.t 46), (some (41, true)), none⟩,
     ⟨(some 48), .pick (.t 41) (.t 47) (.c (.v (.bool false))), none, none⟩])
    (.cond (.t 48) .skip (.exit 0)))
    (.block 1 (.reg none [
      ⟨(some 49), .mv (.t 10), none, none⟩,
      ⟨(some 50), .bin .add (.t 49) (.c (.v (.int .i64 1))), none, none⟩,
      ⟨(some 10), .mv (.t 50), none, none⟩])))))
def c_bhd_fin (f_caesuraref01_Ints f_caesuralaw14_accepts f_back_Head : FuncId) : AC :=
  (.seq (.reg (some []) [
   ⟨(some 82), .mv (.t 9), none, none⟩,
   ⟨(some 83), .mv (.t 8), none, none⟩,
   ⟨(some 84), .mv (.t 10), none, none⟩,
   ⟨(some 85), .slc 1 (.t 83) none (some (.t 84)), none, none⟩,
   ⟨(some 86), .mv (.c .junk), none, (some ((.c (.clo f_caesuraref01_Ints [] [])), [(.t 82), (.t 85)]))⟩,
   ⟨(some 87), .mv (.t 86), none, none⟩,
   ⟨(some 88), .mv (.t 12), (some (87, true)), none⟩,
   ⟨(some 89), .mv (.t 13), (some (87, true)), none⟩,
   ⟨(some 90), .beq false (.t 88) (.t 89), (some (87, true)), none⟩,
   ⟨(some 91), .pick (.t 87) (.t 90) (.c (.v (.bool false))), none, none⟩,
   ⟨(some 92), .mv (.t 91), none, none⟩,
   ⟨(some 93), .mv (.t 12), (some (92, true)), none⟩,
   ⟨(some 94), .load (some 4) (.t 3), (some (92, true)), none⟩,
   ⟨(some 95), .mv (.t 1), (some (92, true)), none⟩,
   ⟨(some 96), .mv (.c .junk), (some (92, true)), (some ((.c (.clo f_caesuralaw14_accepts [] [])), [(.t 94), (.t 95)]))⟩,
   ⟨(some 97), .beq false (.t 93) (.t 96), (some (92, true)), none⟩,
   ⟨(some 98), .pick (.t 92) (.t 97) (.c (.v (.bool false))), none, none⟩,
   ⟨(some 99), .mv (.t 98), none, none⟩,
   ⟨(some 100), .load (some 4) (.t 3), (some (99, true)), none⟩,
   ⟨(some 101), .mv (.t 1), (some (99, true)), none⟩,
   ⟨(some 102), .mv (.c .junk), (some (99, true)), (some ((.c (.clo f_back_Head [] [])), [(.t 100), (.t 101)]))⟩,
   ⟨(some 103), .mv (.t 8), (some (99, true)), none⟩,
   ⟨(some 104), .len (.t 103), (some (99, true)), none⟩,
   ⟨(some 105), .bin .gtr (.t 104) (.c (.v (.int .i64 0))), (some (99, true)), none⟩,
   ⟨(some 106), .beq false (.t 102) (.t 105), (some (99, true)), none⟩,
   ⟨(some 107), .pick (.t 99) (.t 106) (.c (.v (.bool false))), none, none⟩,
   ⟨(some 108), .mv (.t 107), none, none⟩,
   ⟨(some 109), .load (some 4) (.t 3), (some (108, true)), none⟩,
   ⟨(some 110), .mv (.t 1), (some (108, true)), none⟩,
   ⟨(some 111), .mv (.t 7), (some (108, true)), none⟩,
   ⟨(some 112), .slc 1 (.t 110) none (some (.t 111)), (some (108, true)), none⟩,
   ⟨(some 113), .mv (.c .junk), (some (108, true)), (some ((.c (.clo f_back_Head [] [])), [(.t 109), (.t 112)]))⟩,
   ⟨(some 114), .un .not (.t 113), (some (108, true)), none⟩,
   ⟨(some 115), .mv (.t 114), (some (108, true)), none⟩,
   ⟨(some 116), .load (some 4) (.t 3), (some (115, false)), none⟩,
   ⟨(some 117), .mv (.t 1), (some (115, false)), none⟩,
   ⟨(some 118), .mv (.c .junk), (some (115, false)), (some ((.c (.clo f_back_Head [] [])), [(.t 116), (.t 117)]))⟩,
   ⟨(some 119), .pick (.t 115) (.c (.v (.bool true))) (.t 118), (some (108, true)), none⟩,
   ⟨(some 120), .pick (.t 108) (.t 119) (.c (.v (.bool false))), none, none⟩,
   ⟨(some 6), .mv (.t 120), none, none⟩])
  .ret)
def c_bhd_fin2 (f_caesuraref01_Ints f_caesuralaw14_accepts f_back_Head : FuncId) : AC :=
  (.seq (.reg none [
   ⟨(some 68), .mv (.t 11), none, none⟩,
   ⟨(some 69), .len (.t 68), none, none⟩,
   ⟨(some 70), .bin .gtr (.t 69) (.c (.v (.int .i64 0))), none, none⟩,
   ⟨(some 71), .mv (.t 70), none, none⟩,
   ⟨(some 72), .mv (.t 11), (some (71, true)), none⟩,
   ⟨(some 73), .mv (.t 11), (some (71, true)), none⟩,
   ⟨(some 74), .len (.t 73), (some (71, true)), none⟩,
   ⟨(some 75), .bin .sub (.t 74) (.c (.v (.int .i64 1))), (some (71, true)), none⟩,
   ⟨(some 76), .idxA 1 (.t 72) (.t 75), (some (71, true)), none⟩,
   ⟨(some 77), .load none (.t 76), (some (71, true)), none⟩,
   ⟨(some 78), .mv (.t 1), (some (71, true)), none⟩,
   ⟨(some 79), .len (.t 78), (some (71, true)), none⟩,
   ⟨(some 80), .bin .eql (.t 77) (.t 79), (some (71, true)), none⟩,
   ⟨(some 81), .pick (.t 71) (.t 80) (.c (.v (.bool false))), none, none⟩,
   ⟨(some 13), .mv (.t 81), none, none⟩])
  (c_bhd_fin f_caesuraref01_Ints f_caesuralaw14_accepts f_back_Head))
def c_bhd_end (f_caesuraref01_Ints f_caesuralaw14_accepts f_back_Head : FuncId) : AC :=
  (.seq (.reg none [
   ⟨(some 54), .mv (.t 8), none, none⟩,
   ⟨(some 55), .len (.t 54), none, none⟩,
   ⟨(some 56), .bin .gtr (.t 55) (.c (.v (.int .i64 0))), none, none⟩,
   ⟨(some 57), .mv (.t 56), none, none⟩,
   ⟨(some 58), .mv (.t 8), (some (57, true)), none⟩,
   ⟨(some 59), .mv (.t 8), (some (57, true)), none⟩,
   ⟨(some 60), .len (.t 59), (some (57, true)), none⟩,
   ⟨(some 61), .bin .sub (.t 60) (.c (.v (.int .i64 1))), (some (57, true)), none⟩,
   ⟨(some 62), .idxA 1 (.t 58) (.t 61), (some (57, true)), none⟩,
   ⟨(some 63), .load none (.t 62), (some (57, true)), none⟩,
   ⟨(some 64), .mv (.t 1), (some (57, true)), none⟩,
   ⟨(some 65), .len (.t 64), (some (57, true)), none⟩,
   ⟨(some 66), .bin .eql (.t 63) (.t 65), (some (57, true)), none⟩,
   ⟨(some 67), .pick (.t 57) (.t 66) (.c (.v (.bool false))), none, none⟩,
   ⟨(some 12), .mv (.t 67), none, none⟩])
  (c_bhd_fin2 f_caesuraref01_Ints f_caesuralaw14_accepts f_back_Head))
def c_caesuralaw14_BackHeads (f_caesuralaw14_alive f_caesuraref13_Great f_back_Heads f_back_Tails f_caesuraref01_Ints f_caesuralaw14_accepts f_back_Head : FuncId) : AC :=
  (.seq (.reg none [
   ⟨(some 3), .box 4 (.t 0), none, none⟩,
   ⟨(some 6), .mv (.c (.v (.bool false))), none, none⟩])
  (.seq (.seq (.reg none [
   ⟨(some 14), .mv (.c .junk), none, (some ((.c (.clo f_caesuralaw14_alive [] [])), []))⟩,
   ⟨(some 15), .un .not (.t 14), none, none⟩])
  (.cond (.t 15) (.seq (.reg none [
    ⟨(some 6), .mv (.c (.v (.bool false))), none, none⟩])
   .ret) .skip))
  (.seq (.seq (.reg none [
   ⟨(some 16), .load (some 4) (.t 3), none, none⟩,
   ⟨(some 17), .mv (.c .junk), none, (some ((.c (.clo f_caesuraref13_Great [] [])), [(.t 16), (.c (.v (.int .i64 400)))]))⟩,
   ⟨(some 18), .mv (.t 17), none, none⟩,
   ⟨(some 19), .mv (.t 1), (some (18, false)), none⟩,
   ⟨(some 20), .len (.t 19), (some (18, false)), none⟩,
   ⟨(some 21), .bin .gtr (.t 20) (.c (.v (.int .i64 12))), (some (18, false)), none⟩,
   ⟨(some 22), .pick (.t 18) (.c (.v (.bool true))) (.t 21), none, none⟩])
  (.cond (.t 22) (.seq (.reg none [
    ⟨(some 6), .mv (.c (.v (.bool true))), none, none⟩])
   .ret) .skip))
  (.seq (.reg none [
   ⟨(some 23), .mv (.t 2), none, none⟩,
   ⟨(some 24), .conv .i64 (.t 23), none, none⟩,
   ⟨(some 25), .mv (.t 1), none, none⟩,
   ⟨(some 26), .len (.t 25), none, none⟩,
   ⟨(some 27), .bin .add (.t 26) (.c (.v (.int .i64 1))), none, none⟩,
   ⟨(some 28), .bin .rem (.t 24) (.t 27), none, none⟩,
   ⟨(some 7), .mv (.t 28), none, none⟩])
  (.seq (.reg (some []) [
   ⟨(some 29), .load (some 4) (.t 3), none, none⟩,
   ⟨(some 30), .mv (.t 1), none, none⟩,
   ⟨(some 31), .mv (.c .junk), none, (some ((.c (.clo f_back_Heads [] [])), [(.t 29), (.t 30)]))⟩,
   ⟨(some 32), .load (some 4) (.t 3), none, none⟩,
   ⟨(some 33), .mv (.t 1), none, none⟩,
   ⟨(some 34), .mv (.t 7), none, none⟩,
   ⟨(some 35), .slc 1 (.t 33) none (some (.t 34)), none, none⟩,
   ⟨(some 36), .mv (.c .junk), none, (some ((.c (.clo f_back_Heads [] [])), [(.t 32), (.t 35)]))⟩,
   ⟨(some 8), .mv (.t 31), none, none⟩,
   ⟨(some 9), .mv (.t 36), none, none⟩])
  (.seq (.reg none [
   ⟨(some 10), .mv (.c (.v (.int .i64 0))), none, none⟩])
  (.seq c_bhd_loop
  (.seq (.reg none [
   ⟨(some 51), .load (some 4) (.t 3), none, none⟩,
   ⟨(some 52), .mv (.t 1), none, none⟩,
   ⟨(some 53), .mv (.c .junk), none, (some ((.c (.clo f_back_Tails [] [])), [(.t 51), (.t 52)]))⟩,
   ⟨(some 11), .mv (.t 53), none, none⟩])
  (c_bhd_end f_caesuraref01_Ints f_caesuralaw14_accepts f_back_Head)))))))))
theorem filtL_mem {p : Nat → Bool} {i : Nat} {x : Int} (h : x ∈ filtL p i) : x < i := by
  unfold filtL at h
  obtain ⟨k, hk, rfl⟩ := List.mem_map.mp h
  have := (List.mem_filter.mp hk).1
  simp only [List.mem_range] at this
  show ((k : Nat) : Int) < i
  omega
theorem filtL_app (p : Nat → Bool) (i : Nat) : ∀ d, ∃ R : List Int, filtL p (i + d) = filtL p i ++ R ∧ ∀ x ∈ R, (i : Int) ≤ x
  | 0 => ⟨[], by simp, by simp⟩
  | d + 1 => by
    obtain ⟨R, h1, h2⟩ := filtL_app p i d
    refine ⟨R ++ (if p (i + d) = true then [((i + d : Nat) : Int)] else []), ?_, fun x hx => ?_⟩
    · rw [← Nat.add_assoc, filtL_succ, h1, List.append_assoc]
    · rcases List.mem_append.mp hx with hx | hx
      · exact h2 x hx
      · split at hx
        · simp at hx; omega
        · simp at hx
theorem heads_cut (n : Net) (l : List Int) {k : Nat} (hk : k ≤ l.length) : ∃ R : List Int, headsN n l = headsN n (l.take k) ++ R ∧ (∀ x ∈ R, (k : Int) < x) ∧ ∀ x ∈ headsN n (l.take k), x ≤ k := by
  have hlen : (l.take k).length = k := by rw [List.length_take]; omega
  have e : headsN n (l.take k) = filtL (hdP n l) (k + 1) := by
    rw [headsN_eq, hlen]
    refine filtL_congr (fun i hi => ?_)
    unfold hdP
    rw [List.take_take, Nat.min_eq_left (by omega)]
  obtain ⟨R, h1, h2⟩ := filtL_app (hdP n l) (k + 1) (l.length - k)
  refine ⟨R, ?_, fun x hx => by have := h2 x hx; omega, fun x hx => ?_⟩
  · rw [e, ← h1, headsN_eq]; congr 1; omega
  · rw [e] at hx; have := filtL_mem hx; omega
/-- The last one is the whole length, just if it is there. -/
theorem filt_last (p : Nat → Bool) (L : Nat) : (filtL p (L + 1) = [] → p L = false) ∧ ∀ h : 0 < (filtL p (L + 1)).length, ((filtL p (L + 1))[(filtL p (L + 1)).length - 1]'(by omega) == (L : Int)) = p L := by
  have e := filtL_succ p L
  cases hp : p L with
  | true =>
    rw [hp, if_pos rfl] at e
    refine ⟨fun h => by rw [h] at e; simp at e, fun h => ?_⟩
    have : (filtL p (L + 1))[(filtL p (L + 1)).length - 1]'(by omega) = (L : Int) := by
      simp only [e]
      rw [List.getElem_append_right (by simp)]; simp
    rw [this, beq_self_eq_true]
  | false =>
    rw [hp, if_neg (by simp), List.append_nil] at e
    refine ⟨fun _ => rfl, fun h => ?_⟩
    have h2 := filtL_mem (p := p) (i := L) (x := (filtL p (L + 1))[(filtL p (L + 1)).length - 1]'(by omega)) (by rw [← e]; exact List.getElem_mem _)
    rw [beq_eq_false_iff_ne]
    omega
theorem filt_last' {p : Nat → Bool} {L : Nat} {b : Bool} {h1 : List Int} (e : h1 = filtL p (L + 1)) (hb : p L = b) : (h1 = [] → b = false) ∧ ∀ h : 0 < h1.length, ((h1)[h1.length - 1]'(by omega) == (L : Int)) = b := by
  subst e; subst hb; exact filt_last p L
theorem bhd_loop {P : Program} {h1 h2 R : List Int} {k : Nat} (e : h1 = h2 ++ R) (hR : ∀ x ∈ R, (k : Int) < x) (hk : ∀ x ∈ h2, x ≤ (k : Int)) (hl : h1.length ≤ 1000000) {f : AF} {S : St} {Q : Exit → AF → St → Prop} (e8 : f 8 = encIs h1) (e7 : f 7 = encI k) (e10 : f 10 = encI 0)
    (hq : ∀ f' S', (∀ j, j < 10 → f' j = f j) → f' 10 = encI h2.length → S'.g = S.g → Q .normal f' S') : AW P c_bhd_loop Q f S := by
  have hle : h2.length ≤ h1.length := by rw [e]; simp
  simp [AW_seq, AW_reg, AW_regD, AW_block, AW_cond, AW_skip, AW_exit, AW_ret, AW_scp, condR_true, condR_false, AThen_normal, AThen_ret, AThen_exit, ABlock_normal, ABlock_ret, ABlock_exit, AScope_normal, AScope_ret, AScope_exit, RetK_ret, RetK_normal, retAV_one, retAV_two, retAV_three, retAV_nil, RG_nil, RG_op, RG_guard, gdR_tt, gdR_ff, gdR_tf, gdR_ft, gdR_un, RG_call, callQ_clo, contK_ap, opR_some, RD_nil, RD_op0, RD_op1, opD0_some, opD1_some, RD_call, callQD_clo, RD_guard, gdD_tt, gdD_ff, gdD_tf, gdD_ft, gdD_un, psh_nil, psh_cons, Apt_nil, Apt_nilT, Apt_true, Apt_false, Dis_def, runT_val, runT_rd, runT_wr, runT_new, runT_mv, ex, put_some, put_none, ev_t, ev_c, argF_zero, argF_succ, set_g, set_n, cells_v, cells_sl, cells_agg, cells_own, cells_ptr, cells_clo, cells_eptr, cells_mp, putc, exBslice, lfill, exField, exIdxV, exIdxP, exBox, exAlloc, exLoad, exStore, exFieldA, exIdxA, exLen, exPick, exUn, exBeq, exMM, exSeq, seqGo, exExt, binV, intOp, subc, AV.solid, S0, encI, encB, c_bhd_loop]
  refine AW_for h2.length (fun m f' S' => (∀ j, j < 10 → f' j = f j) ∧ f' 10 = encI m ∧ S'.g = S.g) ?_ ?_
  · exact ⟨fun _ _ => rfl, e10, rfl⟩
  · rintro m f2 S2 hm ⟨hf, e10, hg⟩
    have e8' := (hf 8 (by omega)).trans e8
    have e7' := (hf 7 (by omega)).trans e7
    by_cases hlt : m < h2.length
    · have hm1 : m < h1.length := by omega
      have hg1 : h1[m]? = some h1[m] := List.getElem?_eq_getElem hm1
      have hle2 : h1[m] ≤ (k : Int) := by
        have : h1[m] = h2[m] := by simp only [e]; rw [List.getElem_append_left hlt]
        rw [this]; exact hk _ (List.getElem_mem hlt)
      simp [AW_seq, AW_reg, AW_regD, AW_block, AW_cond, AW_skip, AW_exit, AW_ret, AW_scp, condR_true, condR_false, AThen_normal, AThen_ret, AThen_exit, ABlock_normal, ABlock_ret, ABlock_exit, AScope_normal, AScope_ret, AScope_exit, RetK_ret, RetK_normal, retAV_one, retAV_two, retAV_three, retAV_nil, RG_nil, RG_op, RG_guard, gdR_tt, gdR_ff, gdR_tf, gdR_ft, gdR_un, RG_call, callQ_clo, contK_ap, opR_some, RD_nil, RD_op0, RD_op1, opD0_some, opD1_some, RD_call, callQD_clo, RD_guard, gdD_tt, gdD_ff, gdD_tf, gdD_ft, gdD_un, psh_nil, psh_cons, Apt_nil, Apt_nilT, Apt_true, Apt_false, Dis_def, runT_val, runT_rd, runT_wr, runT_new, runT_mv, ex, put_some, put_none, ev_t, ev_c, argF_zero, argF_succ, set_g, set_n, cells_v, cells_sl, cells_agg, cells_own, cells_ptr, cells_clo, cells_eptr, cells_mp, putc, exBslice, lfill, exField, exIdxV, exIdxP, exBox, exAlloc, exLoad, exStore, exFieldA, exIdxA, exLen, exPick, exUn, exBeq, exMM, exSeq, seqGo, exExt, binV, intOp, subc, AV.solid, S0, encI, encB, e8', e7', e10, encIs, hm1, hg1, hle2]
      rw [wrap_in _ (by omega)]
      refine ⟨hlt, fun j hj => ?_, ?_, ?_⟩
      · rw [put_some, if_neg (by omega)]
        rw [← hf j hj]
        simp only [put_some]
        repeat rw [if_neg (by omega)]
      · simp [put_some, encI]
      · exact hg
    · have hm2 : m = h2.length := by omega
      subst hm2
      by_cases hm1 : h2.length < h1.length
      · have hg1 : h1[h2.length]? = some h1[h2.length] := List.getElem?_eq_getElem hm1
        have hle2 : ¬ h1[h2.length] ≤ (k : Int) := by
          have hR0 : 0 < R.length := by rw [e, List.length_append] at hm1; omega
          have : h1[h2.length] = R[0] := by simp only [e]; rw [List.getElem_append_right (by omega)]; simp
          rw [this]
          have := hR _ (List.getElem_mem hR0)
          omega
        simp [AW_seq, AW_reg, AW_regD, AW_block, AW_cond, AW_skip, AW_exit, AW_ret, AW_scp, condR_true, condR_false, AThen_normal, AThen_ret, AThen_exit, ABlock_normal, ABlock_ret, ABlock_exit, AScope_normal, AScope_ret, AScope_exit, RetK_ret, RetK_normal, retAV_one, retAV_two, retAV_three, retAV_nil, RG_nil, RG_op, RG_guard, gdR_tt, gdR_ff, gdR_tf, gdR_ft, gdR_un, RG_call, callQ_clo, contK_ap, opR_some, RD_nil, RD_op0, RD_op1, opD0_some, opD1_some, RD_call, callQD_clo, RD_guard, gdD_tt, gdD_ff, gdD_tf, gdD_ft, gdD_un, psh_nil, psh_cons, Apt_nil, Apt_nilT, Apt_true, Apt_false, Dis_def, runT_val, runT_rd, runT_wr, runT_new, runT_mv, ex, put_some, put_none, ev_t, ev_c, argF_zero, argF_succ, set_g, set_n, cells_v, cells_sl, cells_agg, cells_own, cells_ptr, cells_clo, cells_eptr, cells_mp, putc, exBslice, lfill, exField, exIdxV, exIdxP, exBox, exAlloc, exLoad, exStore, exFieldA, exIdxA, exLen, exPick, exUn, exBeq, exMM, exSeq, seqGo, exExt, binV, intOp, subc, AV.solid, S0, encI, encB, e8', e7', e10, encIs, hm1, hg1, hle2]
        refine hq _ _ (fun j hj => ?_) ?_ hg
        · rw [← hf j hj]
          simp only [put_some]
          repeat rw [if_neg (by omega)]
        · simp [put_some, e10, encI]
      · simp [AW_seq, AW_reg, AW_regD, AW_block, AW_cond, AW_skip, AW_exit, AW_ret, AW_scp, condR_true, condR_false, AThen_normal, AThen_ret, AThen_exit, ABlock_normal, ABlock_ret, ABlock_exit, AScope_normal, AScope_ret, AScope_exit, RetK_ret, RetK_normal, retAV_one, retAV_two, retAV_three, retAV_nil, RG_nil, RG_op, RG_guard, gdR_tt, gdR_ff, gdR_tf, gdR_ft, gdR_un, RG_call, callQ_clo, contK_ap, opR_some, RD_nil, RD_op0, RD_op1, opD0_some, opD1_some, RD_call, callQD_clo, RD_guard, gdD_tt, gdD_ff, gdD_tf, gdD_ft, gdD_un, psh_nil, psh_cons, Apt_nil, Apt_nilT, Apt_true, Apt_false, Dis_def, runT_val, runT_rd, runT_wr, runT_new, runT_mv, ex, put_some, put_none, ev_t, ev_c, argF_zero, argF_succ, set_g, set_n, cells_v, cells_sl, cells_agg, cells_own, cells_ptr, cells_clo, cells_eptr, cells_mp, putc, exBslice, lfill, exField, exIdxV, exIdxP, exBox, exAlloc, exLoad, exStore, exFieldA, exIdxA, exLen, exPick, exUn, exBeq, exMM, exSeq, seqGo, exExt, binV, intOp, subc, AV.solid, S0, encI, encB, e8', e7', e10, encIs, hm1]
        refine hq _ _ (fun j hj => ?_) ?_ hg
        · rw [← hf j hj]
          simp only [put_some]
          repeat rw [if_neg (by omega)]
        · simp [put_some, e10, encI]
theorem slc_hiF (l : List Int) {k : Nat} (h : k ≤ l.length) (S : St) (nid : Nat) : (exSlc 1 (.sl false (l.map encI)) none (some (.v (.int .i64 (k : Int))))).run S nid = some (.sl false ((l.take k).map encI), S) := by
  have hc : ∀ y ∈ l.map encI, y.cells.length = 1 := cells_I l
  simp only [exSlc, Eff.run_val, bnd, Option.bind_some, Int.toNat_natCast]
  rw [if_pos (by omega)]
  simp only [Option.bind_some]
  rw [if_pos ⟨by omega, by simpa using h, hc⟩]
  simp [List.map_take]
theorem bhd_fin {P : Program} {fi fa bd : FuncId} {n : Net} {l h1 h2 R : List Int} {k : Nat} {b : Bool} {f : AF} {S : St} (hk : k ≤ l.length) (e1 : f 1 = encIs l) (e3 : f 3 = .ptr 0 0 0) (e7 : f 7 = encI k) (e8 : f 8 = encIs h1) (e9 : f 9 = encIs h2) (e10 : f 10 = encI h2.length) (e12 : f 12 = encB b) (e13 : f 13 = encB b)
    (g0 : S.g 0 = some (.arr 4 [encNet n])) (he : h1 = h2 ++ R)
    (hi : PureC P fi [encIs h2, encIs h2] (encB true)) (ha : PureC P fa [encNet n, encIs l] (encB b)) (hd : PureC P bd [encNet n, encIs l] (encB (decide (h1 ≠ [])))) (hd2 : PureC P bd [encNet n, encIs (l.take k)] (encB (decide (h2 ≠ [])))) :
    AW P (c_bhd_fin fi fa bd) (RetK [6] (FzK (encB true))) f S := by
  have cn := closed_Net n
  have cl := closed_Is l
  have ck := closed_Is (l.take k)
  have ch := closed_Is h2
  have K : ∀ {f : FuncId} {args : List AV} {r : AV}, PureC P f args r → (∀ x ∈ args, Closed x) → Closed r → ∀ n g, CallD P f args ⟨n, g⟩ [] r := fun h hc hr n g => CallD.kl h hc hr
  have D1 := K hi (cl_cons ch (cl_cons ch cl_nil)) (closed_B _)
  have D2 := K ha (cl_cons cn (cl_cons cl cl_nil)) (closed_B _)
  have D3 := K hd (cl_cons cn (cl_cons cl cl_nil)) (closed_B _)
  have D4 := K hd2 (cl_cons cn (cl_cons ck cl_nil)) (closed_B _)
  have hsl := fun S nid => slc_hiF l hk S nid
  have hsl2 := fun S nid => slc_hiF h1 (k := h2.length) (by rw [he]; simp) S nid
  have htk : h1.take h2.length = h2 := by rw [he]; simp
  rw [htk] at hsl2
  have hnn : h2 ≠ [] → h1 ≠ [] := fun h e => by rw [he] at e; simp at e; exact h e.1
  simp only [encNet, encIs, encI, encIss, List.map_take] at g0 D1 D2 D3 D4 hsl hsl2
  simp [AW_seq, AW_reg, AW_regD, AW_block, AW_cond, AW_skip, AW_exit, AW_ret, AW_scp, condR_true, condR_false, AThen_normal, AThen_ret, AThen_exit, ABlock_normal, ABlock_ret, ABlock_exit, AScope_normal, AScope_ret, AScope_exit, RetK_ret, RetK_normal, retAV_one, retAV_two, retAV_three, retAV_nil, RG_nil, RG_op, RG_guard, gdR_tt, gdR_ff, gdR_tf, gdR_ft, gdR_un, RG_call, callQ_clo, contK_ap, opR_some, RD_nil, RD_op0, RD_op1, opD0_some, opD1_some, RD_call, callQD_clo, RD_guard, gdD_tt, gdD_ff, gdD_tf, gdD_ft, gdD_un, psh_nil, psh_cons, Apt_nil, Apt_nilT, Apt_true, Apt_false, Dis_def, runT_val, runT_rd, runT_wr, runT_new, runT_mv, ex, put_some, put_none, ev_t, ev_c, argF_zero, argF_succ, set_g, set_n, cells_v, cells_sl, cells_agg, cells_own, cells_ptr, cells_clo, cells_eptr, cells_mp, putc, exBslice, lfill, exField, exIdxV, exIdxP, exBox, exAlloc, exLoad, exStore, exFieldA, exIdxA, exLen, exPick, exUn, exBeq, exMM, exSeq, seqGo, exExt, binV, intOp, subc, AV.solid, S0, encI, encB, c_bhd_fin, e1, e3, e7, e8, e9, e10, e12, e13, encIs, g0, hsl2]
  refine ⟨_, ⟨_, D1 _ _⟩, ?_⟩
  simp [AW_seq, AW_reg, AW_regD, AW_block, AW_cond, AW_skip, AW_exit, AW_ret, AW_scp, condR_true, condR_false, AThen_normal, AThen_ret, AThen_exit, ABlock_normal, ABlock_ret, ABlock_exit, AScope_normal, AScope_ret, AScope_exit, RetK_ret, RetK_normal, retAV_one, retAV_two, retAV_three, retAV_nil, RG_nil, RG_op, RG_guard, gdR_tt, gdR_ff, gdR_tf, gdR_ft, gdR_un, RG_call, callQ_clo, contK_ap, opR_some, RD_nil, RD_op0, RD_op1, opD0_some, opD1_some, RD_call, callQD_clo, RD_guard, gdD_tt, gdD_ff, gdD_tf, gdD_ft, gdD_un, psh_nil, psh_cons, Apt_nil, Apt_nilT, Apt_true, Apt_false, Dis_def, runT_val, runT_rd, runT_wr, runT_new, runT_mv, ex, put_some, put_none, ev_t, ev_c, argF_zero, argF_succ, set_g, set_n, cells_v, cells_sl, cells_agg, cells_own, cells_ptr, cells_clo, cells_eptr, cells_mp, putc, exBslice, lfill, exField, exIdxV, exIdxP, exBox, exAlloc, exLoad, exStore, exFieldA, exIdxA, exLen, exPick, exUn, exBeq, exMM, exSeq, seqGo, exExt, binV, intOp, subc, AV.solid, S0, encI, encB, e1, e3, e7, e8, e9, e10, e12, e13, encIs, g0]
  refine ⟨_, ⟨_, D2 _ _⟩, ?_⟩
  simp [AW_seq, AW_reg, AW_regD, AW_block, AW_cond, AW_skip, AW_exit, AW_ret, AW_scp, condR_true, condR_false, AThen_normal, AThen_ret, AThen_exit, ABlock_normal, ABlock_ret, ABlock_exit, AScope_normal, AScope_ret, AScope_exit, RetK_ret, RetK_normal, retAV_one, retAV_two, retAV_three, retAV_nil, RG_nil, RG_op, RG_guard, gdR_tt, gdR_ff, gdR_tf, gdR_ft, gdR_un, RG_call, callQ_clo, contK_ap, opR_some, RD_nil, RD_op0, RD_op1, opD0_some, opD1_some, RD_call, callQD_clo, RD_guard, gdD_tt, gdD_ff, gdD_tf, gdD_ft, gdD_un, psh_nil, psh_cons, Apt_nil, Apt_nilT, Apt_true, Apt_false, Dis_def, runT_val, runT_rd, runT_wr, runT_new, runT_mv, ex, put_some, put_none, ev_t, ev_c, argF_zero, argF_succ, set_g, set_n, cells_v, cells_sl, cells_agg, cells_own, cells_ptr, cells_clo, cells_eptr, cells_mp, putc, exBslice, lfill, exField, exIdxV, exIdxP, exBox, exAlloc, exLoad, exStore, exFieldA, exIdxA, exLen, exPick, exUn, exBeq, exMM, exSeq, seqGo, exExt, binV, intOp, subc, AV.solid, S0, encI, encB, e1, e3, e7, e8, e9, e10, e12, e13, encIs, g0]
  refine ⟨_, ⟨_, D3 _ _⟩, ?_⟩
  by_cases z1 : h1 = []
  · have z2 : h2 = [] := by
      by_cases z2 : h2 = []
      · exact z2
      · exact absurd z1 (hnn z2)
    subst z1
    subst z2
    simp [AW_seq, AW_reg, AW_regD, AW_block, AW_cond, AW_skip, AW_exit, AW_ret, AW_scp, condR_true, condR_false, AThen_normal, AThen_ret, AThen_exit, ABlock_normal, ABlock_ret, ABlock_exit, AScope_normal, AScope_ret, AScope_exit, RetK_ret, RetK_normal, retAV_one, retAV_two, retAV_three, retAV_nil, RG_nil, RG_op, RG_guard, gdR_tt, gdR_ff, gdR_tf, gdR_ft, gdR_un, RG_call, callQ_clo, contK_ap, opR_some, RD_nil, RD_op0, RD_op1, opD0_some, opD1_some, RD_call, callQD_clo, RD_guard, gdD_tt, gdD_ff, gdD_tf, gdD_ft, gdD_un, psh_nil, psh_cons, Apt_nil, Apt_nilT, Apt_true, Apt_false, Dis_def, runT_val, runT_rd, runT_wr, runT_new, runT_mv, ex, put_some, put_none, ev_t, ev_c, argF_zero, argF_succ, set_g, set_n, cells_v, cells_sl, cells_agg, cells_own, cells_ptr, cells_clo, cells_eptr, cells_mp, putc, exBslice, lfill, exField, exIdxV, exIdxP, exBox, exAlloc, exLoad, exStore, exFieldA, exIdxA, exLen, exPick, exUn, exBeq, exMM, exSeq, seqGo, exExt, binV, intOp, subc, AV.solid, S0, encI, encB, e1, e3, e7, e8, e9, e10, e12, e13, encIs, g0, hsl]
    refine ⟨_, ⟨_, D4 _ _⟩, ?_⟩
    simp [AW_seq, AW_reg, AW_regD, AW_block, AW_cond, AW_skip, AW_exit, AW_ret, AW_scp, condR_true, condR_false, AThen_normal, AThen_ret, AThen_exit, ABlock_normal, ABlock_ret, ABlock_exit, AScope_normal, AScope_ret, AScope_exit, RetK_ret, RetK_normal, retAV_one, retAV_two, retAV_three, retAV_nil, RG_nil, RG_op, RG_guard, gdR_tt, gdR_ff, gdR_tf, gdR_ft, gdR_un, RG_call, callQ_clo, contK_ap, opR_some, RD_nil, RD_op0, RD_op1, opD0_some, opD1_some, RD_call, callQD_clo, RD_guard, gdD_tt, gdD_ff, gdD_tf, gdD_ft, gdD_un, psh_nil, psh_cons, Apt_nil, Apt_nilT, Apt_true, Apt_false, Dis_def, runT_val, runT_rd, runT_wr, runT_new, runT_mv, ex, put_some, put_none, ev_t, ev_c, argF_zero, argF_succ, set_g, set_n, cells_v, cells_sl, cells_agg, cells_own, cells_ptr, cells_clo, cells_eptr, cells_mp, putc, exBslice, lfill, exField, exIdxV, exIdxP, exBox, exAlloc, exLoad, exStore, exFieldA, exIdxA, exLen, exPick, exUn, exBeq, exMM, exSeq, seqGo, exExt, binV, intOp, subc, AV.solid, S0, encI, encB]
    exact FzK_B true _
  · have p1 : 0 < h1.length := List.length_pos_iff.mpr z1
    simp [AW_seq, AW_reg, AW_regD, AW_block, AW_cond, AW_skip, AW_exit, AW_ret, AW_scp, condR_true, condR_false, AThen_normal, AThen_ret, AThen_exit, ABlock_normal, ABlock_ret, ABlock_exit, AScope_normal, AScope_ret, AScope_exit, RetK_ret, RetK_normal, retAV_one, retAV_two, retAV_three, retAV_nil, RG_nil, RG_op, RG_guard, gdR_tt, gdR_ff, gdR_tf, gdR_ft, gdR_un, RG_call, callQ_clo, contK_ap, opR_some, RD_nil, RD_op0, RD_op1, opD0_some, opD1_some, RD_call, callQD_clo, RD_guard, gdD_tt, gdD_ff, gdD_tf, gdD_ft, gdD_un, psh_nil, psh_cons, Apt_nil, Apt_nilT, Apt_true, Apt_false, Dis_def, runT_val, runT_rd, runT_wr, runT_new, runT_mv, ex, put_some, put_none, ev_t, ev_c, argF_zero, argF_succ, set_g, set_n, cells_v, cells_sl, cells_agg, cells_own, cells_ptr, cells_clo, cells_eptr, cells_mp, putc, exBslice, lfill, exField, exIdxV, exIdxP, exBox, exAlloc, exLoad, exStore, exFieldA, exIdxA, exLen, exPick, exUn, exBeq, exMM, exSeq, seqGo, exExt, binV, intOp, subc, AV.solid, S0, encI, encB, e1, e3, e7, e8, e9, e10, e12, e13, encIs, g0, hsl, p1, z1]
    refine ⟨_, ⟨_, D4 _ _⟩, ?_⟩
    by_cases z2 : h2 = []
    · simp [AW_seq, AW_reg, AW_regD, AW_block, AW_cond, AW_skip, AW_exit, AW_ret, AW_scp, condR_true, condR_false, AThen_normal, AThen_ret, AThen_exit, ABlock_normal, ABlock_ret, ABlock_exit, AScope_normal, AScope_ret, AScope_exit, RetK_ret, RetK_normal, retAV_one, retAV_two, retAV_three, retAV_nil, RG_nil, RG_op, RG_guard, gdR_tt, gdR_ff, gdR_tf, gdR_ft, gdR_un, RG_call, callQ_clo, contK_ap, opR_some, RD_nil, RD_op0, RD_op1, opD0_some, opD1_some, RD_call, callQD_clo, RD_guard, gdD_tt, gdD_ff, gdD_tf, gdD_ft, gdD_un, psh_nil, psh_cons, Apt_nil, Apt_nilT, Apt_true, Apt_false, Dis_def, runT_val, runT_rd, runT_wr, runT_new, runT_mv, ex, put_some, put_none, ev_t, ev_c, argF_zero, argF_succ, set_g, set_n, cells_v, cells_sl, cells_agg, cells_own, cells_ptr, cells_clo, cells_eptr, cells_mp, putc, exBslice, lfill, exField, exIdxV, exIdxP, exBox, exAlloc, exLoad, exStore, exFieldA, exIdxA, exLen, exPick, exUn, exBeq, exMM, exSeq, seqGo, exExt, binV, intOp, subc, AV.solid, S0, encI, encB, z2]
      exact FzK_B true _
    · simp [AW_seq, AW_reg, AW_regD, AW_block, AW_cond, AW_skip, AW_exit, AW_ret, AW_scp, condR_true, condR_false, AThen_normal, AThen_ret, AThen_exit, ABlock_normal, ABlock_ret, ABlock_exit, AScope_normal, AScope_ret, AScope_exit, RetK_ret, RetK_normal, retAV_one, retAV_two, retAV_three, retAV_nil, RG_nil, RG_op, RG_guard, gdR_tt, gdR_ff, gdR_tf, gdR_ft, gdR_un, RG_call, callQ_clo, contK_ap, opR_some, RD_nil, RD_op0, RD_op1, opD0_some, opD1_some, RD_call, callQD_clo, RD_guard, gdD_tt, gdD_ff, gdD_tf, gdD_ft, gdD_un, psh_nil, psh_cons, Apt_nil, Apt_nilT, Apt_true, Apt_false, Dis_def, runT_val, runT_rd, runT_wr, runT_new, runT_mv, ex, put_some, put_none, ev_t, ev_c, argF_zero, argF_succ, set_g, set_n, cells_v, cells_sl, cells_agg, cells_own, cells_ptr, cells_clo, cells_eptr, cells_mp, putc, exBslice, lfill, exField, exIdxV, exIdxP, exBox, exAlloc, exLoad, exStore, exFieldA, exIdxA, exLen, exPick, exUn, exBeq, exMM, exSeq, seqGo, exExt, binV, intOp, subc, AV.solid, S0, encI, encB, z2, z1, e1, e3, e7, g0, encIs]
      refine ⟨_, ⟨_, D3 _ _⟩, ?_⟩
      simp [AW_seq, AW_reg, AW_regD, AW_block, AW_cond, AW_skip, AW_exit, AW_ret, AW_scp, condR_true, condR_false, AThen_normal, AThen_ret, AThen_exit, ABlock_normal, ABlock_ret, ABlock_exit, AScope_normal, AScope_ret, AScope_exit, RetK_ret, RetK_normal, retAV_one, retAV_two, retAV_three, retAV_nil, RG_nil, RG_op, RG_guard, gdR_tt, gdR_ff, gdR_tf, gdR_ft, gdR_un, RG_call, callQ_clo, contK_ap, opR_some, RD_nil, RD_op0, RD_op1, opD0_some, opD1_some, RD_call, callQD_clo, RD_guard, gdD_tt, gdD_ff, gdD_tf, gdD_ft, gdD_un, psh_nil, psh_cons, Apt_nil, Apt_nilT, Apt_true, Apt_false, Dis_def, runT_val, runT_rd, runT_wr, runT_new, runT_mv, ex, put_some, put_none, ev_t, ev_c, argF_zero, argF_succ, set_g, set_n, cells_v, cells_sl, cells_agg, cells_own, cells_ptr, cells_clo, cells_eptr, cells_mp, putc, exBslice, lfill, exField, exIdxV, exIdxP, exBox, exAlloc, exLoad, exStore, exFieldA, exIdxA, exLen, exPick, exUn, exBeq, exMM, exSeq, seqGo, exExt, binV, intOp, subc, AV.solid, S0, encI, encB, z1]
      exact FzK_B true _
theorem bhd_end {P : Program} {fi fa bd : FuncId} {n : Net} {l h1 h2 t R : List Int} {k : Nat} {b : Bool} {f : AF} {S : St} (hk : k ≤ l.length) (e1 : f 1 = encIs l) (e3 : f 3 = .ptr 0 0 0) (e7 : f 7 = encI k) (e8 : f 8 = encIs h1) (e9 : f 9 = encIs h2) (e10 : f 10 = encI h2.length) (e11 : f 11 = encIs t)
    (g0 : S.g 0 = some (.arr 4 [encNet n])) (he : h1 = h2 ++ R) (l1 : h1.length ≤ 13) (l2 : t.length ≤ 13)
    (w1 : h1 = [] → b = false) (w1' : ∀ h : 0 < h1.length, (h1[h1.length - 1]'(by omega) == (l.length : Int)) = b) (w2 : t = [] → b = false) (w2' : ∀ h : 0 < t.length, (t[t.length - 1]'(by omega) == (l.length : Int)) = b)
    (hi : PureC P fi [encIs h2, encIs h2] (encB true)) (ha : PureC P fa [encNet n, encIs l] (encB b)) (hd : PureC P bd [encNet n, encIs l] (encB (decide (h1 ≠ [])))) (hd2 : PureC P bd [encNet n, encIs (l.take k)] (encB (decide (h2 ≠ [])))) :
    AW P (c_bhd_end fi fa bd) (RetK [6] (FzK (encB true))) f S := by
  have hwl : ∀ m : Nat, m ≤ 13 → IntKind.i64.wrap ((m : Int) - 1) = (m : Int) - 1 := fun m hm => wrap_in _ (by omega)
  have hw1 := hwl _ l1
  have hw2 := hwl _ l2
  -- the second half
  have fin : ∀ (f' : AF) (S' : St), (∀ j, j < 12 → f' j = f j) → f' 12 = encB b → S'.g = S.g → AW P (c_bhd_fin2 fi fa bd) (RetK [6] (FzK (encB true))) f' S' := by
    intro f' S' hf e12 hg
    have e1' := (hf 1 (by omega)).trans e1
    have e3' := (hf 3 (by omega)).trans e3
    have e7' := (hf 7 (by omega)).trans e7
    have e8' := (hf 8 (by omega)).trans e8
    have e9' := (hf 9 (by omega)).trans e9
    have e10' := (hf 10 (by omega)).trans e10
    have e11' := (hf 11 (by omega)).trans e11
    by_cases z2 : t = []
    · have hb := w2 z2
      subst z2
      simp [AW_seq, AW_reg, AW_regD, AW_block, AW_cond, AW_skip, AW_exit, AW_ret, AW_scp, condR_true, condR_false, AThen_normal, AThen_ret, AThen_exit, ABlock_normal, ABlock_ret, ABlock_exit, AScope_normal, AScope_ret, AScope_exit, RetK_ret, RetK_normal, retAV_one, retAV_two, retAV_three, retAV_nil, RG_nil, RG_op, RG_guard, gdR_tt, gdR_ff, gdR_tf, gdR_ft, gdR_un, RG_call, callQ_clo, contK_ap, opR_some, RD_nil, RD_op0, RD_op1, opD0_some, opD1_some, RD_call, callQD_clo, RD_guard, gdD_tt, gdD_ff, gdD_tf, gdD_ft, gdD_un, psh_nil, psh_cons, Apt_nil, Apt_nilT, Apt_true, Apt_false, Dis_def, runT_val, runT_rd, runT_wr, runT_new, runT_mv, ex, put_some, put_none, ev_t, ev_c, argF_zero, argF_succ, set_g, set_n, cells_v, cells_sl, cells_agg, cells_own, cells_ptr, cells_clo, cells_eptr, cells_mp, putc, exBslice, lfill, exField, exIdxV, exIdxP, exBox, exAlloc, exLoad, exStore, exFieldA, exIdxA, exLen, exPick, exUn, exBeq, exMM, exSeq, seqGo, exExt, binV, intOp, subc, AV.solid, S0, encI, encB, c_bhd_fin2, e1', e11', encIs]
      refine bhd_fin (h1 := h1) (h2 := h2) (R := R) (k := k) (b := b) hk ?_ ?_ ?_ ?_ ?_ ?_ ?_ ?_ (by rw [← g0, ← hg]) he hi ha hd hd2
      · simp [put_some, e1']
      · simp [put_some, e3']
      · simp [put_some, e7']
      · simp [put_some, e8']
      · simp [put_some, e9']
      · simp [put_some, e10']
      · simp [put_some, e12]
      · simp [put_some, hb, encB]
    · have p2 : 0 < t.length := List.length_pos_iff.mpr z2
      have q2 := w2' p2
      have r1 : (0 : Int) ≤ (t.length : Int) - 1 := by omega
      have r2 : (t.length : Int) - 1 < t.length := by omega
      have r3 : ((t.length : Int) - 1).toNat = t.length - 1 := by omega
      have r4 : t[t.length - 1]? = some (t[t.length - 1]'(by omega)) := List.getElem?_eq_getElem (by omega)
      have r5 : (1 : Int) ≤ t.length := by omega
      simp [AW_seq, AW_reg, AW_regD, AW_block, AW_cond, AW_skip, AW_exit, AW_ret, AW_scp, condR_true, condR_false, AThen_normal, AThen_ret, AThen_exit, ABlock_normal, ABlock_ret, ABlock_exit, AScope_normal, AScope_ret, AScope_exit, RetK_ret, RetK_normal, retAV_one, retAV_two, retAV_three, retAV_nil, RG_nil, RG_op, RG_guard, gdR_tt, gdR_ff, gdR_tf, gdR_ft, gdR_un, RG_call, callQ_clo, contK_ap, opR_some, RD_nil, RD_op0, RD_op1, opD0_some, opD1_some, RD_call, callQD_clo, RD_guard, gdD_tt, gdD_ff, gdD_tf, gdD_ft, gdD_un, psh_nil, psh_cons, Apt_nil, Apt_nilT, Apt_true, Apt_false, Dis_def, runT_val, runT_rd, runT_wr, runT_new, runT_mv, ex, put_some, put_none, ev_t, ev_c, argF_zero, argF_succ, set_g, set_n, cells_v, cells_sl, cells_agg, cells_own, cells_ptr, cells_clo, cells_eptr, cells_mp, putc, exBslice, lfill, exField, exIdxV, exIdxP, exBox, exAlloc, exLoad, exStore, exFieldA, exIdxA, exLen, exPick, exUn, exBeq, exMM, exSeq, seqGo, exExt, binV, intOp, subc, AV.solid, S0, encI, encB, c_bhd_fin2, e1', e11', encIs, p2, hw2, r1, r2, r3, r4, r5, q2]
      refine bhd_fin (h1 := h1) (h2 := h2) (R := R) (k := k) (b := b) hk ?_ ?_ ?_ ?_ ?_ ?_ ?_ ?_ (by rw [← g0, ← hg]) he hi ha hd hd2
      · simp [put_some, e1']
      · simp [put_some, e3']
      · simp [put_some, e7']
      · simp [put_some, e8']
      · simp [put_some, e9']
      · simp [put_some, e10']
      · simp [put_some, e12]
      · simp [put_some, encB]
  by_cases z2 : h1 = []
  · have hb := w1 z2
    subst z2
    simp [AW_seq, AW_reg, AW_regD, AW_block, AW_cond, AW_skip, AW_exit, AW_ret, AW_scp, condR_true, condR_false, AThen_normal, AThen_ret, AThen_exit, ABlock_normal, ABlock_ret, ABlock_exit, AScope_normal, AScope_ret, AScope_exit, RetK_ret, RetK_normal, retAV_one, retAV_two, retAV_three, retAV_nil, RG_nil, RG_op, RG_guard, gdR_tt, gdR_ff, gdR_tf, gdR_ft, gdR_un, RG_call, callQ_clo, contK_ap, opR_some, RD_nil, RD_op0, RD_op1, opD0_some, opD1_some, RD_call, callQD_clo, RD_guard, gdD_tt, gdD_ff, gdD_tf, gdD_ft, gdD_un, psh_nil, psh_cons, Apt_nil, Apt_nilT, Apt_true, Apt_false, Dis_def, runT_val, runT_rd, runT_wr, runT_new, runT_mv, ex, put_some, put_none, ev_t, ev_c, argF_zero, argF_succ, set_g, set_n, cells_v, cells_sl, cells_agg, cells_own, cells_ptr, cells_clo, cells_eptr, cells_mp, putc, exBslice, lfill, exField, exIdxV, exIdxP, exBox, exAlloc, exLoad, exStore, exFieldA, exIdxA, exLen, exPick, exUn, exBeq, exMM, exSeq, seqGo, exExt, binV, intOp, subc, AV.solid, S0, encI, encB, c_bhd_end, e1, e8, encIs]
    refine fin _ _ (fun j hj => ?_) ?_ rfl
    · simp only [put_some]
      repeat rw [if_neg (by omega)]
    · simp [put_some, hb, encB]
  · have p2 : 0 < h1.length := List.length_pos_iff.mpr z2
    have q2 := w1' p2
    have r1 : (0 : Int) ≤ (h1.length : Int) - 1 := by omega
    have r2 : (h1.length : Int) - 1 < h1.length := by omega
    have r3 : ((h1.length : Int) - 1).toNat = h1.length - 1 := by omega
    have r4 : h1[h1.length - 1]? = some (h1[h1.length - 1]'(by omega)) := List.getElem?_eq_getElem (by omega)
    have r5 : (1 : Int) ≤ h1.length := by omega
    simp [AW_seq, AW_reg, AW_regD, AW_block, AW_cond, AW_skip, AW_exit, AW_ret, AW_scp, condR_true, condR_false, AThen_normal, AThen_ret, AThen_exit, ABlock_normal, ABlock_ret, ABlock_exit, AScope_normal, AScope_ret, AScope_exit, RetK_ret, RetK_normal, retAV_one, retAV_two, retAV_three, retAV_nil, RG_nil, RG_op, RG_guard, gdR_tt, gdR_ff, gdR_tf, gdR_ft, gdR_un, RG_call, callQ_clo, contK_ap, opR_some, RD_nil, RD_op0, RD_op1, opD0_some, opD1_some, RD_call, callQD_clo, RD_guard, gdD_tt, gdD_ff, gdD_tf, gdD_ft, gdD_un, psh_nil, psh_cons, Apt_nil, Apt_nilT, Apt_true, Apt_false, Dis_def, runT_val, runT_rd, runT_wr, runT_new, runT_mv, ex, put_some, put_none, ev_t, ev_c, argF_zero, argF_succ, set_g, set_n, cells_v, cells_sl, cells_agg, cells_own, cells_ptr, cells_clo, cells_eptr, cells_mp, putc, exBslice, lfill, exField, exIdxV, exIdxP, exBox, exAlloc, exLoad, exStore, exFieldA, exIdxA, exLen, exPick, exUn, exBeq, exMM, exSeq, seqGo, exExt, binV, intOp, subc, AV.solid, S0, encI, encB, c_bhd_end, e1, e8, encIs, p2, hw1, r1, r2, r3, r4, r5, q2]
    refine fin _ _ (fun j hj => ?_) ?_ rfl
    · simp only [put_some]
      repeat rw [if_neg (by omega)]
    · simp [put_some, encB]
structure HHeads (P : Program) (n : Net) (l : List Int) (bh bl fa bd : FuncId) : Prop where
  kbh : ∀ k, k ≤ l.length → PureC P bh [encNet n, encIs (l.take k)] (encIs (headsN n (l.take k)))
  kbl : PureC P bl [encNet n, encIs l] (encIs (headsN (turnD n) l.reverse))
  kac : PureC P fa [encNet n, encIs l] (encB (accN n l))
  kbd : ∀ k, k ≤ l.length → PureC P bd [encNet n, encIs (l.take k)] (encB (decide (headsN n (l.take k) ≠ [])))
theorem BackHeads_body {P : Program} {fl fg bh bl fi fa bd : FuncId} (n : Net) (l : List Int) (cut : Nat) (hcut : cut < 256) (hl : PureC P fl [] (encB true)) (gn : Bool) (hgn : PureC P fg [encNet n, encI 400] (encB gn))
    (hi : ∀ a b, Len a → Len b → PureC P fi [encIs a, encIs b] (encB (a == b))) (H : gn = false → l.length ≤ 12 → HHeads P n l bh bl fa bd) :
    AW P (c_caesuralaw14_BackHeads fl fg bh bl fi fa bd) (RetK [6] (FzK (encB true))) (argF [encNet n, encIs l, .v (.int .u8 cut)]) S0 := by
  have cn := closed_Net n
  have K : ∀ {f : FuncId} {args : List AV} {r : AV}, PureC P f args r → (∀ x ∈ args, Closed x) → Closed r → ∀ n g, CallD P f args ⟨n, g⟩ [] r := fun h hc hr n g => CallD.kl h hc hr
  simp [AW_seq, AW_reg, AW_regD, AW_block, AW_cond, AW_skip, AW_exit, AW_ret, AW_scp, condR_true, condR_false, AThen_normal, AThen_ret, AThen_exit, ABlock_normal, ABlock_ret, ABlock_exit, AScope_normal, AScope_ret, AScope_exit, RetK_ret, RetK_normal, retAV_one, retAV_two, retAV_three, retAV_nil, RG_nil, RG_op, RG_guard, gdR_tt, gdR_ff, gdR_tf, gdR_ft, gdR_un, RG_call, callQ_clo, contK_ap, opR_some, RD_nil, RD_op0, RD_op1, opD0_some, opD1_some, RD_call, callQD_clo, RD_guard, gdD_tt, gdD_ff, gdD_tf, gdD_ft, gdD_un, psh_nil, psh_cons, Apt_nil, Apt_nilT, Apt_true, Apt_false, Dis_def, runT_val, runT_rd, runT_wr, runT_new, runT_mv, ex, put_some, put_none, ev_t, ev_c, argF_zero, argF_succ, set_g, set_n, cells_v, cells_sl, cells_agg, cells_own, cells_ptr, cells_clo, cells_eptr, cells_mp, putc, exBslice, lfill, exField, exIdxV, exIdxP, exBox, exAlloc, exLoad, exStore, exFieldA, exIdxA, exLen, exPick, exUn, exBeq, exMM, exSeq, seqGo, exExt, binV, intOp, subc, AV.solid, S0, encI, encB, c_caesuralaw14_BackHeads, encNet, encIss]
  refine CallR.pure hl cl_nil (closed_B _) ?_
  simp [AW_seq, AW_reg, AW_regD, AW_block, AW_cond, AW_skip, AW_exit, AW_ret, AW_scp, condR_true, condR_false, AThen_normal, AThen_ret, AThen_exit, ABlock_normal, ABlock_ret, ABlock_exit, AScope_normal, AScope_ret, AScope_exit, RetK_ret, RetK_normal, retAV_one, retAV_two, retAV_three, retAV_nil, RG_nil, RG_op, RG_guard, gdR_tt, gdR_ff, gdR_tf, gdR_ft, gdR_un, RG_call, callQ_clo, contK_ap, opR_some, RD_nil, RD_op0, RD_op1, opD0_some, opD1_some, RD_call, callQD_clo, RD_guard, gdD_tt, gdD_ff, gdD_tf, gdD_ft, gdD_un, psh_nil, psh_cons, Apt_nil, Apt_nilT, Apt_true, Apt_false, Dis_def, runT_val, runT_rd, runT_wr, runT_new, runT_mv, ex, put_some, put_none, ev_t, ev_c, argF_zero, argF_succ, set_g, set_n, cells_v, cells_sl, cells_agg, cells_own, cells_ptr, cells_clo, cells_eptr, cells_mp, putc, exBslice, lfill, exField, exIdxV, exIdxP, exBox, exAlloc, exLoad, exStore, exFieldA, exIdxA, exLen, exPick, exUn, exBeq, exMM, exSeq, seqGo, exExt, binV, intOp, subc, AV.solid, S0, encI, encB]
  refine CallR.pure hgn (cl_cons cn (cl_cons (closed_I _) cl_nil)) (closed_B _) ?_
  cases gn with
  | true =>
    simp [AW_seq, AW_reg, AW_regD, AW_block, AW_cond, AW_skip, AW_exit, AW_ret, AW_scp, condR_true, condR_false, AThen_normal, AThen_ret, AThen_exit, ABlock_normal, ABlock_ret, ABlock_exit, AScope_normal, AScope_ret, AScope_exit, RetK_ret, RetK_normal, retAV_one, retAV_two, retAV_three, retAV_nil, RG_nil, RG_op, RG_guard, gdR_tt, gdR_ff, gdR_tf, gdR_ft, gdR_un, RG_call, callQ_clo, contK_ap, opR_some, RD_nil, RD_op0, RD_op1, opD0_some, opD1_some, RD_call, callQD_clo, RD_guard, gdD_tt, gdD_ff, gdD_tf, gdD_ft, gdD_un, psh_nil, psh_cons, Apt_nil, Apt_nilT, Apt_true, Apt_false, Dis_def, runT_val, runT_rd, runT_wr, runT_new, runT_mv, ex, put_some, put_none, ev_t, ev_c, argF_zero, argF_succ, set_g, set_n, cells_v, cells_sl, cells_agg, cells_own, cells_ptr, cells_clo, cells_eptr, cells_mp, putc, exBslice, lfill, exField, exIdxV, exIdxP, exBox, exAlloc, exLoad, exStore, exFieldA, exIdxA, exLen, exPick, exUn, exBeq, exMM, exSeq, seqGo, exExt, binV, intOp, subc, AV.solid, S0, encI, encB]
    exact FzK_B true _
  | false =>
    by_cases hlen : (12 : Int) < l.length
    · have hl' : 12 < l.length := by omega
      simp [AW_seq, AW_reg, AW_regD, AW_block, AW_cond, AW_skip, AW_exit, AW_ret, AW_scp, condR_true, condR_false, AThen_normal, AThen_ret, AThen_exit, ABlock_normal, ABlock_ret, ABlock_exit, AScope_normal, AScope_ret, AScope_exit, RetK_ret, RetK_normal, retAV_one, retAV_two, retAV_three, retAV_nil, RG_nil, RG_op, RG_guard, gdR_tt, gdR_ff, gdR_tf, gdR_ft, gdR_un, RG_call, callQ_clo, contK_ap, opR_some, RD_nil, RD_op0, RD_op1, opD0_some, opD1_some, RD_call, callQD_clo, RD_guard, gdD_tt, gdD_ff, gdD_tf, gdD_ft, gdD_un, psh_nil, psh_cons, Apt_nil, Apt_nilT, Apt_true, Apt_false, Dis_def, runT_val, runT_rd, runT_wr, runT_new, runT_mv, ex, put_some, put_none, ev_t, ev_c, argF_zero, argF_succ, set_g, set_n, cells_v, cells_sl, cells_agg, cells_own, cells_ptr, cells_clo, cells_eptr, cells_mp, putc, exBslice, lfill, exField, exIdxV, exIdxP, exBox, exAlloc, exLoad, exStore, exFieldA, exIdxA, exLen, exPick, exUn, exBeq, exMM, exSeq, seqGo, exExt, binV, intOp, subc, AV.solid, S0, encI, encB, encIs, hlen, hl']
      exact FzK_B true _
    · have hl' : ¬ 12 < l.length := by omega
      have h := H rfl (by omega)
      obtain ⟨k1, k2, k3, k4⟩ := h
      have hk : cut % (l.length + 1) ≤ l.length := by have := Nat.mod_lt cut (show 0 < l.length + 1 by omega); omega
      have k1a := k1 l.length (Nat.le_refl _)
      rw [List.take_length] at k1a
      have k1b := k1 _ hk
      have k4a := k4 l.length (Nat.le_refl _)
      rw [List.take_length] at k4a
      have k4b := k4 _ hk
      obtain ⟨R, hR1, hR2, hR3⟩ := heads_cut n l hk
      have hw1 : IntKind.i64.wrap ((l.length : Int) + 1) = (l.length : Int) + 1 := wrap_in _ (by omega)
      have hw2 : IntKind.i64.wrap (cut : Int) = (cut : Int) := wrap_in _ (by omega)
      have hm : Int.tmod (cut : Int) ((l.length : Int) + 1) = ((cut % (l.length + 1) : Nat) : Int) := by
        rw [Int.tmod_eq_emod_of_nonneg (by omega)]; simp
      have hz : ¬ (l.length : Int) + 1 = 0 := by omega
      generalize hkk : cut % (l.length + 1) = k at *
      have cl := closed_Is l
      have ck := closed_Is (l.take k)
      have D1 := K k1a (cl_cons cn (cl_cons cl cl_nil)) (closed_Is _)
      have D2 := K k1b (cl_cons cn (cl_cons ck cl_nil)) (closed_Is _)
      have hsl := fun S nid => slc_hiF l hk S nid
      simp only [encNet, encIs, encI, encIss] at cn cl ck D1 D2
      simp only [List.map_take] at D2 hsl
      simp [AW_seq, AW_reg, AW_regD, AW_block, AW_cond, AW_skip, AW_exit, AW_ret, AW_scp, condR_true, condR_false, AThen_normal, AThen_ret, AThen_exit, ABlock_normal, ABlock_ret, ABlock_exit, AScope_normal, AScope_ret, AScope_exit, RetK_ret, RetK_normal, retAV_one, retAV_two, retAV_three, retAV_nil, RG_nil, RG_op, RG_guard, gdR_tt, gdR_ff, gdR_tf, gdR_ft, gdR_un, RG_call, callQ_clo, contK_ap, opR_some, RD_nil, RD_op0, RD_op1, opD0_some, opD1_some, RD_call, callQD_clo, RD_guard, gdD_tt, gdD_ff, gdD_tf, gdD_ft, gdD_un, psh_nil, psh_cons, Apt_nil, Apt_nilT, Apt_true, Apt_false, Dis_def, runT_val, runT_rd, runT_wr, runT_new, runT_mv, ex, put_some, put_none, ev_t, ev_c, argF_zero, argF_succ, set_g, set_n, cells_v, cells_sl, cells_agg, cells_own, cells_ptr, cells_clo, cells_eptr, cells_mp, putc, exBslice, lfill, exField, exIdxV, exIdxP, exBox, exAlloc, exLoad, exStore, exFieldA, exIdxA, exLen, exPick, exUn, exBeq, exMM, exSeq, seqGo, exExt, binV, intOp, subc, AV.solid, S0, encI, encB, encIs, hlen, hl', exConv, hw1, hw2, hm, hz]
      refine ⟨_, ⟨_, D1 _ _⟩, ?_⟩
      simp [AW_seq, AW_reg, AW_regD, AW_block, AW_cond, AW_skip, AW_exit, AW_ret, AW_scp, condR_true, condR_false, AThen_normal, AThen_ret, AThen_exit, ABlock_normal, ABlock_ret, ABlock_exit, AScope_normal, AScope_ret, AScope_exit, RetK_ret, RetK_normal, retAV_one, retAV_two, retAV_three, retAV_nil, RG_nil, RG_op, RG_guard, gdR_tt, gdR_ff, gdR_tf, gdR_ft, gdR_un, RG_call, callQ_clo, contK_ap, opR_some, RD_nil, RD_op0, RD_op1, opD0_some, opD1_some, RD_call, callQD_clo, RD_guard, gdD_tt, gdD_ff, gdD_tf, gdD_ft, gdD_un, psh_nil, psh_cons, Apt_nil, Apt_nilT, Apt_true, Apt_false, Dis_def, runT_val, runT_rd, runT_wr, runT_new, runT_mv, ex, put_some, put_none, ev_t, ev_c, argF_zero, argF_succ, set_g, set_n, cells_v, cells_sl, cells_agg, cells_own, cells_ptr, cells_clo, cells_eptr, cells_mp, putc, exBslice, lfill, exField, exIdxV, exIdxP, exBox, exAlloc, exLoad, exStore, exFieldA, exIdxA, exLen, exPick, exUn, exBeq, exMM, exSeq, seqGo, exExt, binV, intOp, subc, AV.solid, S0, encI, encB, hsl]
      refine ⟨_, ⟨_, D2 _ _⟩, ?_⟩
      have L1 : (headsN n l).length ≤ 13 := by rw [headsN_eq]; have := filtL_len (hdP n l) (l.length + 1); omega
      have L2 : (headsN (turnD n) l.reverse).length ≤ 13 := by rw [tails_eq]; have := filtL_len (tlP n l) (l.length + 1); omega
      have L3 : (headsN n (l.take k)).length ≤ 13 := by rw [hR1, List.length_append] at L1; omega
      have hi' := hi (headsN n (l.take k)) (headsN n (l.take k)) (by unfold Len; omega) (by unfold Len; omega)
      rw [beq_self_eq_true] at hi'
      have W1 := filt_last' (headsN_eq n l) (b := accN n l) (by unfold hdP; rw [List.take_length])
      have W2 := filt_last' (tails_eq n l) (b := accN n l) (by unfold tlP; rw [Nat.sub_self]; rfl)
      have e0 := closed_Is l
      refine bhd_loop (k := k) hR1 hR2 hR3 (by omega) ?_ ?_ ?_ ?_
      · simp [put_some, encIs]
      · simp [put_some, encI]
      · simp [put_some, encI]
      · intro f' S' hf e10 hg
        have e1' := hf 1 (by omega)
        have e3' := hf 3 (by omega)
        have e7' := hf 7 (by omega)
        have e8' := hf 8 (by omega)
        have e9' := hf 9 (by omega)
        simp [put_some, argF_zero, argF_succ] at e1' e3' e7' e8' e9'
        have k2' := k2
        simp only [encNet, encIs, encIss, encI] at k2'
        have g0' : S'.g 0 = some (.arr 4 [.agg [.v (.int .i64 n.signs), .sl false (n.by_.map encIs), .sl false (n.follow.map encIs), .sl false (n.last.map encI)]]) := by rw [hg]; simp [set_g]
        simp [AW_seq, AW_reg, AW_regD, AW_block, AW_cond, AW_skip, AW_exit, AW_ret, AW_scp, condR_true, condR_false, AThen_normal, AThen_ret, AThen_exit, ABlock_normal, ABlock_ret, ABlock_exit, AScope_normal, AScope_ret, AScope_exit, RetK_ret, RetK_normal, retAV_one, retAV_two, retAV_three, retAV_nil, RG_nil, RG_op, RG_guard, gdR_tt, gdR_ff, gdR_tf, gdR_ft, gdR_un, RG_call, callQ_clo, contK_ap, opR_some, RD_nil, RD_op0, RD_op1, opD0_some, opD1_some, RD_call, callQD_clo, RD_guard, gdD_tt, gdD_ff, gdD_tf, gdD_ft, gdD_un, psh_nil, psh_cons, Apt_nil, Apt_nilT, Apt_true, Apt_false, Dis_def, runT_val, runT_rd, runT_wr, runT_new, runT_mv, ex, put_some, put_none, ev_t, ev_c, argF_zero, argF_succ, set_g, set_n, cells_v, cells_sl, cells_agg, cells_own, cells_ptr, cells_clo, cells_eptr, cells_mp, putc, exBslice, lfill, exField, exIdxV, exIdxP, exBox, exAlloc, exLoad, exStore, exFieldA, exIdxA, exLen, exPick, exUn, exBeq, exMM, exSeq, seqGo, exExt, binV, intOp, subc, AV.solid, S0, encI, encB, e1', e3', g0']
        refine CallR.pure k2' (cl_cons cn (cl_cons cl cl_nil)) (closed_Is _) ?_
        simp [AW_seq, AW_reg, AW_regD, AW_block, AW_cond, AW_skip, AW_exit, AW_ret, AW_scp, condR_true, condR_false, AThen_normal, AThen_ret, AThen_exit, ABlock_normal, ABlock_ret, ABlock_exit, AScope_normal, AScope_ret, AScope_exit, RetK_ret, RetK_normal, retAV_one, retAV_two, retAV_three, retAV_nil, RG_nil, RG_op, RG_guard, gdR_tt, gdR_ff, gdR_tf, gdR_ft, gdR_un, RG_call, callQ_clo, contK_ap, opR_some, RD_nil, RD_op0, RD_op1, opD0_some, opD1_some, RD_call, callQD_clo, RD_guard, gdD_tt, gdD_ff, gdD_tf, gdD_ft, gdD_un, psh_nil, psh_cons, Apt_nil, Apt_nilT, Apt_true, Apt_false, Dis_def, runT_val, runT_rd, runT_wr, runT_new, runT_mv, ex, put_some, put_none, ev_t, ev_c, argF_zero, argF_succ, set_g, set_n, cells_v, cells_sl, cells_agg, cells_own, cells_ptr, cells_clo, cells_eptr, cells_mp, putc, exBslice, lfill, exField, exIdxV, exIdxP, exBox, exAlloc, exLoad, exStore, exFieldA, exIdxA, exLen, exPick, exUn, exBeq, exMM, exSeq, seqGo, exExt, binV, intOp, subc, AV.solid, S0, encI, encB]
        refine bhd_end (n := n) (l := l) (h1 := headsN n l) (h2 := headsN n (l.take k)) (t := headsN (turnD n) l.reverse) (R := R) (k := k) (b := accN n l) hk ?_ ?_ ?_ ?_ ?_ ?_ ?_ ?_ hR1 L1 L2 W1.1 W1.2 W2.1 W2.2 hi' k3 k4a k4b
        · simp [put_some, e1', encIs]
        · simp [put_some, e3']
        · simp [put_some, e7', encI]
        · simp [put_some, e8', encIs]
        · simp [put_some, e9', encIs]
        · simp [put_some, e10]
        · simp [put_some, encIs]
        · exact g0'
end Go.Rf

