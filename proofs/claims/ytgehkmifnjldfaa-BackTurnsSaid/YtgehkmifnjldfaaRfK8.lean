import Derived.Test.YtgehkmifnjldfaaRfK4
import Derived.Test.YtgehkmifnjldfaaRfKl
/- Own work: what the net the other way round accepts. -/
set_option linter.unusedVariables false
set_option linter.unusedSimpArgs false
namespace Go.Rf
open Go.RowKit

theorem mem_rowT {n : Net} {i : Nat} {q : Int} : q ∈ rowT n i n.by_.length ↔ 1 ≤ q ∧ q < n.by_.length ∧ rowP n i q.toNat = true := by
  unfold rowT
  simp only [List.mem_map, List.mem_filter, List.mem_range, Bool.and_eq_true, decide_eq_true_eq]
  constructor
  · rintro ⟨k, ⟨h1, h2, h3⟩, rfl⟩
    refine ⟨by show (1 : Int) ≤ (k : Int); omega, by show (k : Int) < _; omega, ?_⟩
    show rowP n i ((k : Int).toNat) = true
    rw [Int.toNat_natCast]; exact h3
  · rintro ⟨h1, h2, h3⟩
    exact ⟨q.toNat, ⟨by omega, by omega, h3⟩, by show ((q.toNat : Nat) : Int) = q; omega⟩
theorem rowT_pw (n : Net) (i : Nat) : (rowT n i n.by_.length).Pairwise (· < ·) := by
  unfold rowT
  rw [List.pairwise_map]
  refine List.Pairwise.filter _ ?_
  exact (List.pairwise_lt_range (n := n.by_.length)).imp (fun {a b} h => by show (a : Int) < (b : Int); omega)
theorem turn_follow {n : Net} {i : Nat} (h : i < n.by_.length) : (turnN n).follow.getD i [] = rowT n i n.by_.length := by
  simp [turnN, List.getD_eq_getElem?_getD, h]
theorem follow_getD {n : Net} {i : Nat} (h : i < n.follow.length) : n.follow.getD i [] = n.follow[i] := by
  rw [List.getD_eq_getElem?_getD, List.getElem?_eq_getElem h]; rfl
theorem mem_lastT {n : Net} {q : Int} : q ∈ lastT n ↔ (q = 0 ∧ 0 ∈ n.last) ∨ q ∈ n.follow.getD 0 [] := by
  unfold lastT
  rw [List.mem_append]
  by_cases h : n.last.contains 0 = true
  · rw [if_pos h]
    have h' : (0 : Int) ∈ n.last := by simpa using h
    simp only [List.mem_singleton, h', and_true]
  · rw [if_neg h]
    have h' : ¬ (0 : Int) ∈ n.last := by simpa using h
    simp only [List.not_mem_nil, h', and_false]
theorem turn_right {n : Net} (R : RightN n) : RightN (turnN n) := by
  have hn1 := R.n1
  have hfl := R.len
  have h0 : 0 < n.follow.length := by omega
  have hf0 := R.follow 0 h0
  refine ⟨R.s1, R.s2, R.n1, R.n2, by simp [turnN], R.by0, ?_, R.by_, fun i h => ?_⟩
  · refine ⟨?_, fun x hx => ?_⟩
    · show (lastT n).Pairwise (· < ·)
      unfold lastT
      rw [follow_getD h0, List.pairwise_append]
      refine ⟨by split <;> simp, hf0.1, fun a ha b hb => ?_⟩
      have hb2 := hf0.2 b hb
      split at ha
      · simp at ha; omega
      · simp at ha
    · rcases mem_lastT.mp hx with ⟨rfl, _⟩ | hx
      · exact ⟨by omega, by show (0 : Int) < (n.by_.length : Nat); omega⟩
      · rw [follow_getD h0] at hx
        have := hf0.2 x hx
        exact ⟨by omega, this.2⟩
  · have e : (turnN n).follow[i] = rowT n i n.by_.length := by simp [turnN]
    rw [e]
    refine ⟨rowT_pw n i, fun x hx => ?_⟩
    have := mem_rowT.mp hx
    exact ⟨this.1, this.2.1⟩
theorem mem_turn {n : Net} (R : RightN n) {p q : Int} (hp : 0 ≤ p ∧ p < n.by_.length) : q ∈ (turnN n).follow.getD p.toNat [] ↔ 1 ≤ q ∧ q < n.by_.length ∧ (if p = 0 then q ∈ n.last else p ∈ n.follow.getD q.toNat []) := by
  rw [turn_follow (by omega), mem_rowT]
  refine and_congr_right (fun h1 => and_congr_right (fun h2 => ?_))
  unfold rowP
  have e1 : ((q.toNat : Nat) : Int) = q := by omega
  by_cases h0 : p = 0
  · subst h0
    rw [if_pos rfl, if_pos (by rfl), e1]
    exact List.contains_iff_mem
  · have e2 : ((p.toNat : Nat) : Int) = p := by omega
    rw [if_neg h0, if_neg (by omega), e2]
    exact List.contains_iff_mem
theorem turn_turn {n : Net} (R : RightN n) : turnN (turnN n) = n := by
  have hn1 := R.n1
  have hfl := R.len
  have h0 : 0 < n.follow.length := by omega
  have R2 := turn_right R
  have R3 := turn_right R2
  have hbl : (turnN n).by_.length = n.by_.length := rfl
  have hfol : ∀ i, i < n.by_.length → (turnN (turnN n)).follow.getD i [] = n.follow.getD i [] := by
    intro i hi
    have hi2 : i < n.follow.length := by omega
    have hl3 := R3.len
    have hbl3 : (turnN (turnN n)).by_.length = n.by_.length := rfl
    have hi3 : i < (turnN (turnN n)).follow.length := by omega
    refine pw_ext ?_ ?_ (fun q => ?_)
    · rw [follow_getD hi3]; exact (R3.follow i hi3).1
    · rw [follow_getD hi2]; exact (R.follow i hi2).1
    · have hm := mem_turn R2 (p := (i : Int)) (q := q) (by rw [hbl]; omega)
      rw [Int.toNat_natCast] at hm
      rw [hm, hbl]
      have hb : q ∈ n.follow.getD i [] → 1 ≤ q ∧ q < n.by_.length := fun h => by rw [follow_getD hi2] at h; exact (R.follow i hi2).2 q h
      by_cases hi0 : (i : Int) = 0
      · have hi0' : i = 0 := by omega
        subst hi0'
        rw [if_pos (by rfl)]
        show _ ∧ _ ∧ q ∈ lastT n ↔ _
        rw [mem_lastT]
        constructor
        · rintro ⟨h1, h2, h3 | h3⟩
          · omega
          · exact h3
        · intro h; exact ⟨(hb h).1, (hb h).2, .inr h⟩
      · rw [if_neg hi0]
        constructor
        · rintro ⟨h1, h2, h3⟩
          rw [mem_turn R (by omega), if_neg (by omega)] at h3
          have := h3.2.2
          rw [Int.toNat_natCast] at this; exact this
        · intro h
          have hb2 := hb h
          refine ⟨hb2.1, hb2.2, ?_⟩
          rw [mem_turn R (by omega), if_neg (by omega), Int.toNat_natCast]
          exact ⟨by omega, by omega, h⟩
  have e1 : (turnN (turnN n)).follow = n.follow := by
    have hl3 := R3.len
    have hbl3 : (turnN (turnN n)).by_.length = n.by_.length := rfl
    refine List.ext_getElem (by omega) (fun i h1 h2 => ?_)
    have := hfol i (by omega)
    rw [follow_getD h1, follow_getD h2] at this
    exact this
  have e2 : (turnN (turnN n)).last = n.last := by
    refine pw_ext R3.last.1 R.last.1 (fun q => ?_)
    show q ∈ lastT (turnN n) ↔ _
    rw [mem_lastT]
    have hm := mem_turn R (p := 0) (q := q) (by omega)
    rw [if_pos rfl] at hm
    simp only [Int.toNat_zero] at hm
    rw [hm]
    have hz : (0 : Int) ∈ (turnN n).last ↔ (0 : Int) ∈ n.last := by
      show 0 ∈ lastT n ↔ _
      rw [mem_lastT]
      constructor
      · rintro (⟨_, h⟩ | h)
        · exact h
        · rw [follow_getD h0] at h; have := (R.follow 0 h0).2 0 h; omega
      · intro h; exact .inl ⟨rfl, h⟩
    rw [hz]
    constructor
    · rintro (⟨rfl, h⟩ | ⟨_, _, h⟩) <;> exact h
    · intro h
      have := R.last.2 q h
      by_cases hq : q = 0
      · subst hq; exact .inl ⟨rfl, h⟩
      · exact .inr ⟨by omega, this.2, h⟩
  have e3 : (turnN (turnN n)).signs = n.signs := rfl
  have e4 : (turnN (turnN n)).by_ = n.by_ := rfl
  revert e1 e2 e3 e4
  generalize turnN (turnN n) = m
  intro e1 e2 e3 e4
  cases m; cases n
  simp_all
/-! ### what they accept -/
def edgeN (n : Net) (p q s : Int) : Prop := 0 ≤ p ∧ p < n.follow.length ∧ q ∈ n.follow.getD p.toNat [] ∧ behS n s q = true
theorem mem_stepN {n : Net} {a : List Int} {s q : Int} : q ∈ stepN n a s ↔ ∃ p ∈ a, edgeN n p q s := by
  unfold stepN behindL behind1 edgeN
  rw [mem_setF, List.mem_flatMap]
  constructor
  · rintro ⟨p, hp, h⟩
    split at h
    · rename_i hb
      have := List.mem_filter.mp h
      exact ⟨p, hp, hb.1, hb.2, this.1, this.2⟩
    · simp at h
  · rintro ⟨p, hp, h1, h2, h3, h4⟩
    exact ⟨p, hp, by rw [if_pos ⟨h1, h2⟩]; exact List.mem_filter.mpr ⟨h3, h4⟩⟩
def AccF (n : Net) : Int → List Int → Prop
  | p, [] => p ∈ n.last
  | p, s :: l => ∃ q, edgeN n p q s ∧ AccF n q l
theorem acc_fold {n : Net} : ∀ (l a : List Int), (∃ q ∈ l.foldl (stepN n) a, q ∈ n.last) ↔ ∃ p ∈ a, AccF n p l
  | [], a => Iff.rfl
  | s :: l, a => by
    rw [List.foldl_cons, acc_fold l (stepN n a s)]
    constructor
    · rintro ⟨q, h1, h2⟩
      obtain ⟨p, h3, h4⟩ := mem_stepN.mp h1
      exact ⟨p, h3, q, h4, h2⟩
    · rintro ⟨p, h3, q, h4, h2⟩
      exact ⟨q, mem_stepN.mpr ⟨p, h3, h4⟩, h2⟩
theorem accN_iff {n : Net} {l : List Int} : accN n l = true ↔ rightN n = true ∧ AccF n 0 l := by
  unfold accN runN
  rw [Bool.and_eq_true, List.any_eq_true]
  refine and_congr_right (fun _ => ?_)
  have := acc_fold (n := n) l [0]
  simp only [List.mem_singleton, exists_eq_left] at this
  rw [← this]
  constructor
  · rintro ⟨q, h1, h2⟩; exact ⟨q, h1, by simpa using h2⟩
  · rintro ⟨q, h1, h2⟩; exact ⟨q, h1, by simpa using h2⟩
theorem runN_snoc (n : Net) (l : List Int) (s : Int) : runN n (l ++ [s]) = stepN n (runN n l) s := by
  unfold runN; rw [List.foldl_append]; rfl
theorem edge_ge {n : Net} (R : RightN n) {p q s : Int} (h : edgeN n p q s) : 1 ≤ q ∧ q < n.by_.length := by
  obtain ⟨h1, h2, h3, _⟩ := h
  rw [follow_getD (by omega)] at h3
  exact (R.follow p.toNat (by omega)).2 q h3
theorem rev_run {n : Net} (R : RightN n) : ∀ (l : List Int) (s q : Int), 1 ≤ q → (q ∈ runN n (l.reverse ++ [s]) ↔ behS n s q = true ∧ AccF (turnN n) q l)
  | [], s, q, hq => by
    have hn1 := R.n1
    have hfl := R.len
    rw [runN_snoc, mem_stepN]
    show (∃ p ∈ [0], edgeN n p q s) ↔ _ ∧ q ∈ lastT n
    rw [mem_lastT]
    simp only [List.mem_singleton, exists_eq_left]
    unfold edgeN
    constructor
    · rintro ⟨_, _, h3, h4⟩; exact ⟨h4, .inr h3⟩
    · rintro ⟨h4, h | h⟩
      · omega
      · exact ⟨by omega, by omega, h, h4⟩
  | s' :: l, s, q, hq => by
    have hn1 := R.n1
    have hfl := R.len
    have ih := rev_run R l s'
    have R2 := turn_right R
    have hf2 := R2.len
    have hb2 : (turnN n).by_.length = n.by_.length := rfl
    rw [List.reverse_cons, runN_snoc, mem_stepN]
    constructor
    · rintro ⟨p, h1, h2⟩
      have hp : 1 ≤ p := by
        rw [runN_snoc, mem_stepN] at h1
        obtain ⟨p', _, h⟩ := h1
        exact (edge_ge R h).1
      have hq2 := (edge_ge R h2).2
      obtain ⟨h3, h4⟩ := (ih p hp).mp h1
      refine ⟨h2.2.2.2, p, ⟨by omega, by omega, ?_, h3⟩, h4⟩
      rw [mem_turn R (by omega), if_neg (by omega)]
      exact ⟨hp, by have := h2.2.1; omega, h2.2.2.1⟩
    · rintro ⟨h1, p, ⟨h2, h3, h4, h5⟩, h6⟩
      rw [mem_turn R (by omega), if_neg (by omega)] at h4
      refine ⟨p, (ih p h4.1).mpr ⟨h5, h6⟩, by omega, by omega, h4.2.2, h1⟩
theorem acc_turn {n : Net} (hr : rightN n = true) (l : List Int) : accN (turnN n) l.reverse = accN n l := by
  have R := (rightN_iff n).mp hr
  have hr2 : rightN (turnN n) = true := (rightN_iff _).mpr (turn_right R)
  have hn1 := R.n1
  have hfl := R.len
  have h0 : 0 < n.follow.length := by omega
  have hb2 : (turnN n).by_.length = n.by_.length := rfl
  have hf2 := (turn_right R).len
  rw [Bool.eq_iff_iff]
  rw [accN_iff, accN_iff, hr, hr2]
  simp only [true_and]
  rcases List.eq_nil_or_concat l with rfl | ⟨l', s, rfl⟩
  · show 0 ∈ lastT n ↔ 0 ∈ n.last
    rw [mem_lastT]
    constructor
    · rintro (⟨_, h⟩ | h)
      · exact h
      · rw [follow_getD h0] at h; have := (R.follow 0 h0).2 0 h; omega
    · intro h; exact .inl ⟨rfl, h⟩
  · rw [List.concat_eq_append, List.reverse_append]
    have key := acc_fold (n := n) (l' ++ [s]) [0]
    simp only [List.mem_singleton, exists_eq_left] at key
    rw [← key]
    show (∃ q, edgeN (turnN n) 0 q s ∧ AccF (turnN n) q l'.reverse) ↔ ∃ q ∈ runN n (l' ++ [s]), q ∈ n.last
    have hrv := rev_run R l'.reverse s
    rw [List.reverse_reverse] at hrv
    constructor
    · rintro ⟨q, ⟨h1, h2, h3, h4⟩, h5⟩
      have h3' := (mem_turn R (p := 0) (q := q) (by omega)).mp h3
      rw [if_pos rfl] at h3'
      exact ⟨q, (hrv q h3'.1).mpr ⟨h4, h5⟩, h3'.2.2⟩
    · rintro ⟨q, h1, h2⟩
      have hq : 1 ≤ q := by
        rw [runN_snoc, mem_stepN] at h1
        obtain ⟨p', _, h⟩ := h1
        exact (edge_ge R h).1
      obtain ⟨h3, h4⟩ := (hrv q hq).mp h1
      have hl := R.last.2 q h2
      refine ⟨q, ⟨by omega, by omega, (mem_turn R (p := 0) (q := q) (by omega)).mpr ?_, h3⟩, h4⟩
      rw [if_pos rfl]
      exact ⟨hq, hl.2, h2⟩
theorem turnD_right (n : Net) : rightN (turnD n) = rightN n := by
  unfold turnD
  by_cases h : rightN n = true
  · rw [if_pos h, h]; exact (rightN_iff _).mpr (turn_right ((rightN_iff _).mp h))
  · rw [if_neg h]
    have : rightN n = false := by simpa using h
    rw [this]
    rfl
theorem accN_wrong {n : Net} (h : rightN n = false) (l : List Int) : accN n l = false := by unfold accN; rw [h]; rfl
theorem acc_turnD (n : Net) (l : List Int) : accN (turnD n) l.reverse = accN n l := by
  cases h : rightN n with
  | true => unfold turnD; rw [if_pos h]; exact acc_turn h l
  | false => rw [accN_wrong h, accN_wrong (by rw [turnD_right, h])]
theorem filtL_congr {p q : Nat → Bool} {i : Nat} (h : ∀ k, k < i → p k = q k) : filtL p i = filtL q i := by
  unfold filtL
  rw [List.filter_congr (fun k hk => h k (by simpa using hk))]
theorem headsN_eq (n : Net) (l : List Int) : headsN n l = filtL (hdP n l) (l.length + 1) := by
  unfold headsN
  cases h : rightN n with
  | true => rw [if_pos rfl]; rfl
  | false =>
    rw [if_neg (by simp)]
    symm
    unfold filtL
    rw [List.filter_eq_nil_iff.mpr (fun k _ => by unfold hdP; rw [accN_wrong h]; simp)]; rfl
theorem tails_eq (n : Net) (l : List Int) : headsN (turnD n) l.reverse = filtL (tlP n l) (l.length + 1) := by
  rw [headsN_eq, List.length_reverse]
  refine filtL_congr (fun k hk => ?_)
  unfold hdP tlP
  have hk2 : l.length - (l.length - k) = k := by omega
  have e : l.reverse.take k = (l.drop (l.length - k)).reverse := by rw [List.reverse_drop, hk2]
  rw [e, acc_turnD]
end Go.Rf


/- Own work: the laws of layer 14, gone through. -/
set_option linter.unusedVariables false
set_option linter.unusedSimpArgs false
namespace Go.Rf
open Go.RowKit

def c_caesuralaw14_accepts (f_caesuraref13_Accepts : FuncId) : AC :=
  (.seq (.reg none [
   ⟨(some 2), .box 4 (.t 0), none, none⟩,
   ⟨(some 4), .mv (.c (.v (.bool false))), none, none⟩])
  (.seq (.reg none [
   ⟨(some 5), .load (some 4) (.t 2), none, none⟩,
   ⟨(some 6), .mv (.t 1), none, none⟩,
   ⟨(some 7), .mv (.c .junk), none, (some ((.c (.clo f_caesuraref13_Accepts [] [])), [(.t 5), (.t 6)]))⟩,
   ⟨(some 4), .mv (.t 7), none, none⟩])
  .ret))
theorem accepts14_body {P : Program} {fa : FuncId} (n : Net) (l : List Int) (r : Bool) (h : PureC P fa [encNet n, encIs l] (encB r)) : AW P (c_caesuralaw14_accepts fa) (RetK [4] (FzK (encB r))) (argF [encNet n, encIs l]) S0 := by
  have c := cl_cons (closed_Net n) (cl_cons (closed_Is l) cl_nil)
  simp only [encNet, encIs, encIss] at h c
  simp [AW_seq, AW_reg, AW_regD, AW_block, AW_cond, AW_skip, AW_exit, AW_ret, AW_scp, condR_true, condR_false, AThen_normal, AThen_ret, AThen_exit, ABlock_normal, ABlock_ret, ABlock_exit, AScope_normal, AScope_ret, AScope_exit, RetK_ret, RetK_normal, retAV_one, retAV_two, retAV_three, retAV_nil, RG_nil, RG_op, RG_guard, gdR_tt, gdR_ff, gdR_tf, gdR_ft, gdR_un, RG_call, callQ_clo, contK_ap, opR_some, RD_nil, RD_op0, RD_op1, opD0_some, opD1_some, RD_call, callQD_clo, RD_guard, gdD_tt, gdD_ff, gdD_tf, gdD_ft, gdD_un, psh_nil, psh_cons, Apt_nil, Apt_nilT, Apt_true, Apt_false, Dis_def, runT_val, runT_rd, runT_wr, runT_new, runT_mv, ex, put_some, put_none, ev_t, ev_c, argF_zero, argF_succ, set_g, set_n, cells_v, cells_sl, cells_agg, cells_own, cells_ptr, cells_clo, cells_eptr, cells_mp, putc, exBslice, lfill, exField, exIdxV, exIdxP, exBox, exAlloc, exLoad, exStore, exFieldA, exIdxA, exLen, exPick, exUn, exBeq, exMM, exSeq, seqGo, exExt, binV, intOp, subc, AV.solid, S0, encI, encB, c_caesuralaw14_accepts, encNet, encIss, encIs]
  refine CallR.pure h c (closed_B _) ?_
  simp [AW_seq, AW_reg, AW_regD, AW_block, AW_cond, AW_skip, AW_exit, AW_ret, AW_scp, condR_true, condR_false, AThen_normal, AThen_ret, AThen_exit, ABlock_normal, ABlock_ret, ABlock_exit, AScope_normal, AScope_ret, AScope_exit, RetK_ret, RetK_normal, retAV_one, retAV_two, retAV_three, retAV_nil, RG_nil, RG_op, RG_guard, gdR_tt, gdR_ff, gdR_tf, gdR_ft, gdR_un, RG_call, callQ_clo, contK_ap, opR_some, RD_nil, RD_op0, RD_op1, opD0_some, opD1_some, RD_call, callQD_clo, RD_guard, gdD_tt, gdD_ff, gdD_tf, gdD_ft, gdD_un, psh_nil, psh_cons, Apt_nil, Apt_nilT, Apt_true, Apt_false, Dis_def, runT_val, runT_rd, runT_wr, runT_new, runT_mv, ex, put_some, put_none, ev_t, ev_c, argF_zero, argF_succ, set_g, set_n, cells_v, cells_sl, cells_agg, cells_own, cells_ptr, cells_clo, cells_eptr, cells_mp, putc, exBslice, lfill, exField, exIdxV, exIdxP, exBox, exAlloc, exLoad, exStore, exFieldA, exIdxA, exLen, exPick, exUn, exBeq, exMM, exSeq, seqGo, exExt, binV, intOp, subc, AV.solid, S0, encI, encB]
  exact FzK_B _ _
structure HBack (P : Program) (n : Net) (l : List Int) (bt rt rh rl fs bh bl bd be : FuncId) : Prop where
  bt : PureC P bt [encNet n] (.tup [encNet (turnD n), encI (turnE n)])
  rt : PureC P rt [encNet n] (.tup [encNet (turnD n), encI (turnE n)])
  rh : PureC P rh [encNet n, encIs l] (encIs (filtL (hdP n l) (l.length + 1)))
  rl : PureC P rl [encNet n, encIs l] (encIs (filtL (tlP n l) (l.length + 1)))
  fs : PureC P fs [encNet (turnD n), encNet (turnD n)] (encB true)
  bh : PureC P bh [encNet n, encIs l] (encIs (headsN n l))
  bl : PureC P bl [encNet n, encIs l] (encIs (headsN (turnD n) l.reverse))
  bd : PureC P bd [encNet n, encIs l] (encB (decide (headsN n l ≠ [])))
  be : PureC P be [encNet n, encIs l] (encB (decide (headsN (turnD n) l.reverse ≠ [])))
end Go.Rf


/- Own work: BackTurns, gone through. -/
set_option linter.unusedVariables false
set_option linter.unusedSimpArgs false
namespace Go.Rf
open Go.RowKit

def c_caesuralaw14_BackTurns (f_caesuralaw14_alive f_caesuraref13_Great f_back_Turn f_caesuraref13_Right f_caesuraref11_Back f_caesuralaw14_accepts f_back_Heads f_back_Tails f_caesuraref01_Ints : FuncId) : AC :=
  (.seq (.reg none [
   ⟨(some 2), .box 4 (.t 0), none, none⟩,
   ⟨(some 4), .mv (.c (.v (.bool false))), none, none⟩])
  (.seq (.seq (.reg none [
   ⟨(some 10), .mv (.c .junk), none, (some ((.c (.clo f_caesuralaw14_alive [] [])), []))⟩,
   ⟨(some 11), .un .not (.t 10), none, none⟩])
  (.cond (.t 11) (.seq (.reg none [
    ⟨(some 4), .mv (.c (.v (.bool false))), none, none⟩])
   .ret) .skip))
  (.seq (.seq (.reg none [
   ⟨(some 12), .load (some 4) (.t 2), none, none⟩,
   ⟨(some 13), .mv (.c .junk), none, (some ((.c (.clo f_caesuraref13_Great [] [])), [(.t 12), (.c (.v (.int .i64 400)))]))⟩,
   ⟨(some 14), .mv (.t 13), none, none⟩,
   ⟨(some 15), .mv (.t 1), (some (14, false)), none⟩,
   ⟨(some 16), .len (.t 15), (some (14, false)), none⟩,
   ⟨(some 17), .bin .gtr (.t 16) (.c (.v (.int .i64 12))), (some (14, false)), none⟩,
   ⟨(some 18), .pick (.t 14) (.c (.v (.bool true))) (.t 17), none, none⟩])
  (.cond (.t 18) (.seq (.reg none [
    ⟨(some 4), .mv (.c (.v (.bool true))), none, none⟩])
   .ret) .skip))
  (.seq (.reg none [
   ⟨(some 20), .load (some 4) (.t 2), none, none⟩,
   ⟨(some 21), .mv (.c .junk), none, (some ((.c (.clo f_back_Turn [] [])), [(.t 20)]))⟩,
   ⟨(some 19), .mv (.t 21), none, none⟩,
   ⟨(some 22), .ext 0 (.t 19), none, none⟩,
   ⟨(some 23), .ext 1 (.t 19), none, none⟩,
   ⟨(some 5), .alloc (.agg [(.v (.int .i64 0)), (.sl true []), (.sl true []), (.sl true [])]) 4, none, none⟩,
   ⟨none, .store 4 (.t 5) (.t 22), none, none⟩,
   ⟨(some 6), .mv (.t 23), none, none⟩])
  (.seq (.seq (.reg none [
   ⟨(some 24), .mv (.t 6), none, none⟩,
   ⟨(some 25), .bin .neq (.t 24) (.c (.v (.int .i64 0))), none, none⟩])
  (.cond (.t 25) (.seq (.reg none [
    ⟨(some 26), .mv (.t 6), none, none⟩,
    ⟨(some 27), .bin .eql (.t 26) (.c (.v (.int .i64 1))), none, none⟩,
    ⟨(some 28), .mv (.t 27), none, none⟩,
    ⟨(some 29), .load (some 4) (.t 2), (some (28, true)), none⟩,
    ⟨(some 30), .mv (.c .junk), (some (28, true)), (some ((.c (.clo f_caesuraref13_Right [] [])), [(.t 29)]))⟩,
    ⟨(some 31), .un .not (.t 30), (some (28, true)), none⟩,
    ⟨(some 32), .pick (.t 28) (.t 31) (.c (.v (.bool false))), none, none⟩,
    ⟨(some 4), .mv (.t 32), none, none⟩])
   .ret) .skip))
  (.seq (.reg none [
   ⟨(some 34), .load (some 4) (.t 5), none, none⟩,
   ⟨(some 35), .mv (.c .junk), none, (some ((.c (.clo f_back_Turn [] [])), [(.t 34)]))⟩,
   ⟨(some 33), .mv (.t 35), none, none⟩,
   ⟨(some 36), .ext 0 (.t 33), none, none⟩,
   ⟨(some 37), .ext 1 (.t 33), none, none⟩,
   ⟨(some 7), .alloc (.agg [(.v (.int .i64 0)), (.sl true []), (.sl true []), (.sl true [])]) 4, none, none⟩,
   ⟨none, .store 4 (.t 7) (.t 36), none, none⟩,
   ⟨(some 8), .mv (.t 37), none, none⟩])
  (.seq (.reg none [
   ⟨(some 38), .mv (.t 1), none, none⟩,
   ⟨(some 39), .mv (.c .junk), none, (some ((.c (.clo f_caesuraref11_Back [] [])), [(.t 38)]))⟩,
   ⟨(some 9), .mv (.t 39), none, none⟩])
  (.seq (.reg (some []) [
   ⟨(some 40), .mv (.t 8), none, none⟩,
   ⟨(some 41), .bin .eql (.t 40) (.c (.v (.int .i64 0))), none, none⟩,
   ⟨(some 42), .mv (.t 41), none, none⟩,
   ⟨(some 43), .load (some 4) (.t 5), (some (42, true)), none⟩,
   ⟨(some 44), .mv (.c .junk), (some (42, true)), (some ((.c (.clo f_caesuraref13_Right [] [])), [(.t 43)]))⟩,
   ⟨(some 45), .pick (.t 42) (.t 44) (.c (.v (.bool false))), none, none⟩,
   ⟨(some 46), .mv (.t 45), none, none⟩,
   ⟨(some 47), .load (some 4) (.t 7), (some (46, true)), none⟩,
   ⟨(some 48), .mv (.t 1), (some (46, true)), none⟩,
   ⟨(some 49), .mv (.c .junk), (some (46, true)), (some ((.c (.clo f_caesuralaw14_accepts [] [])), [(.t 47), (.t 48)]))⟩,
   ⟨(some 50), .load (some 4) (.t 2), (some (46, true)), none⟩,
   ⟨(some 51), .mv (.t 1), (some (46, true)), none⟩,
   ⟨(some 52), .mv (.c .junk), (some (46, true)), (some ((.c (.clo f_caesuralaw14_accepts [] [])), [(.t 50), (.t 51)]))⟩,
   ⟨(some 53), .beq false (.t 49) (.t 52), (some (46, true)), none⟩,
   ⟨(some 54), .pick (.t 46) (.t 53) (.c (.v (.bool false))), none, none⟩,
   ⟨(some 55), .mv (.t 54), none, none⟩,
   ⟨(some 56), .load (some 4) (.t 5), (some (55, true)), none⟩,
   ⟨(some 57), .mv (.t 9), (some (55, true)), none⟩,
   ⟨(some 58), .mv (.c .junk), (some (55, true)), (some ((.c (.clo f_caesuralaw14_accepts [] [])), [(.t 56), (.t 57)]))⟩,
   ⟨(some 59), .load (some 4) (.t 2), (some (55, true)), none⟩,
   ⟨(some 60), .mv (.t 1), (some (55, true)), none⟩,
   ⟨(some 61), .mv (.c .junk), (some (55, true)), (some ((.c (.clo f_caesuralaw14_accepts [] [])), [(.t 59), (.t 60)]))⟩,
   ⟨(some 62), .beq false (.t 58) (.t 61), (some (55, true)), none⟩,
   ⟨(some 63), .pick (.t 55) (.t 62) (.c (.v (.bool false))), none, none⟩,
   ⟨(some 64), .mv (.t 63), none, none⟩,
   ⟨(some 65), .load (some 4) (.t 5), (some (64, true)), none⟩,
   ⟨(some 66), .mv (.t 9), (some (64, true)), none⟩,
   ⟨(some 67), .mv (.c .junk), (some (64, true)), (some ((.c (.clo f_back_Heads [] [])), [(.t 65), (.t 66)]))⟩,
   ⟨(some 68), .load (some 4) (.t 2), (some (64, true)), none⟩,
   ⟨(some 69), .mv (.t 1), (some (64, true)), none⟩,
   ⟨(some 70), .mv (.c .junk), (some (64, true)), (some ((.c (.clo f_back_Tails [] [])), [(.t 68), (.t 69)]))⟩,
   ⟨(some 71), .mv (.c .junk), (some (64, true)), (some ((.c (.clo f_caesuraref01_Ints [] [])), [(.t 67), (.t 70)]))⟩,
   ⟨(some 72), .pick (.t 64) (.t 71) (.c (.v (.bool false))), none, none⟩,
   ⟨(some 73), .mv (.t 72), none, none⟩,
   ⟨(some 74), .fieldA 3 (.t 7), (some (73, true)), none⟩,
   ⟨(some 75), .load none (.t 74), (some (73, true)), none⟩,
   ⟨(some 76), .fieldA 3 (.t 2), (some (73, true)), none⟩,
   ⟨(some 77), .load none (.t 76), (some (73, true)), none⟩,
   ⟨(some 78), .mv (.c .junk), (some (73, true)), (some ((.c (.clo f_caesuraref01_Ints [] [])), [(.t 75), (.t 77)]))⟩,
   ⟨(some 79), .pick (.t 73) (.t 78) (.c (.v (.bool false))), none, none⟩,
   ⟨(some 80), .mv (.t 79), none, none⟩,
   ⟨(some 81), .fieldA 2 (.t 7), (some (80, true)), none⟩,
   ⟨(some 82), .load none (.t 81), (some (80, true)), none⟩,
   ⟨(some 83), .idxA 1 (.t 82) (.c (.v (.int .i64 0))), (some (80, true)), none⟩,
   ⟨(some 84), .load none (.t 83), (some (80, true)), none⟩,
   ⟨(some 85), .fieldA 2 (.t 2), (some (80, true)), none⟩,
   ⟨(some 86), .load none (.t 85), (some (80, true)), none⟩,
   ⟨(some 87), .idxA 1 (.t 86) (.c (.v (.int .i64 0))), (some (80, true)), none⟩,
   ⟨(some 88), .load none (.t 87), (some (80, true)), none⟩,
   ⟨(some 89), .mv (.c .junk), (some (80, true)), (some ((.c (.clo f_caesuraref01_Ints [] [])), [(.t 84), (.t 88)]))⟩,
   ⟨(some 90), .pick (.t 80) (.t 89) (.c (.v (.bool false))), none, none⟩,
   ⟨(some 4), .mv (.t 90), none, none⟩])
  .ret))))))))
structure HTurn (P : Program) (n : Net) (l : List Int) (bt rr fa bh bl : FuncId) : Prop where
  kbt : PureC P bt [encNet n] (.tup [encNet (turnD n), encI (turnE n)])
  krr : PureC P rr [encNet n] (encB (rightN n))
  kbt2 : rightN n = true → PureC P bt [encNet (turnN n)] (.tup [encNet n, encI 0])
  krr2 : rightN n = true → PureC P rr [encNet (turnN n)] (encB true)
  kac : PureC P fa [encNet n, encIs l] (encB (accN n l))
  kac2 : rightN n = true → PureC P fa [encNet (turnN n), encIs l.reverse] (encB (accN n l))
  kbh : rightN n = true → PureC P bh [encNet (turnN n), encIs l.reverse] (encIs (headsN (turnN n) l.reverse))
  kbl : rightN n = true → PureC P bl [encNet n, encIs l] (encIs (headsN (turnN n) l.reverse))
theorem BackTurns_body {P : Program} {fl fg bt rr fb fa bh bl fi : FuncId} (n : Net) (l : List Int) (hl : PureC P fl [] (encB true)) (gn : Bool) (hgn : PureC P fg [encNet n, encI 400] (encB gn))
    (hi : ∀ a b, Len a → Len b → PureC P fi [encIs a, encIs b] (encB (a == b))) (hb : l.length ≤ 12 → PureC P fb [encIs l] (encIs l.reverse)) (hll : gn = false → Len n.last) (hlf : gn = false → Len (n.follow.getD 0 [])) (H : gn = false → l.length ≤ 12 → HTurn P n l bt rr fa bh bl) :
    AW P (c_caesuralaw14_BackTurns fl fg bt rr fb fa bh bl fi) (RetK [4] (FzK (encB true))) (argF [encNet n, encIs l]) S0 := by
  have cn := closed_Net n
  have K : ∀ {f : FuncId} {args : List AV} {r : AV}, PureC P f args r → (∀ x ∈ args, Closed x) → Closed r → ∀ n g, CallD P f args ⟨n, g⟩ [] r := fun h hc hr n g => CallD.kl h hc hr
  simp [AW_seq, AW_reg, AW_regD, AW_block, AW_cond, AW_skip, AW_exit, AW_ret, AW_scp, condR_true, condR_false, AThen_normal, AThen_ret, AThen_exit, ABlock_normal, ABlock_ret, ABlock_exit, AScope_normal, AScope_ret, AScope_exit, RetK_ret, RetK_normal, retAV_one, retAV_two, retAV_three, retAV_nil, RG_nil, RG_op, RG_guard, gdR_tt, gdR_ff, gdR_tf, gdR_ft, gdR_un, RG_call, callQ_clo, contK_ap, opR_some, RD_nil, RD_op0, RD_op1, opD0_some, opD1_some, RD_call, callQD_clo, RD_guard, gdD_tt, gdD_ff, gdD_tf, gdD_ft, gdD_un, psh_nil, psh_cons, Apt_nil, Apt_nilT, Apt_true, Apt_false, Dis_def, runT_val, runT_rd, runT_wr, runT_new, runT_mv, ex, put_some, put_none, ev_t, ev_c, argF_zero, argF_succ, set_g, set_n, cells_v, cells_sl, cells_agg, cells_own, cells_ptr, cells_clo, cells_eptr, cells_mp, putc, exBslice, lfill, exField, exIdxV, exIdxP, exBox, exAlloc, exLoad, exStore, exFieldA, exIdxA, exLen, exPick, exUn, exBeq, exMM, exSeq, seqGo, exExt, binV, intOp, subc, AV.solid, S0, encI, encB, c_caesuralaw14_BackTurns, encNet]
  refine CallR.pure hl cl_nil (closed_B _) ?_
  simp [AW_seq, AW_reg, AW_regD, AW_block, AW_cond, AW_skip, AW_exit, AW_ret, AW_scp, condR_true, condR_false, AThen_normal, AThen_ret, AThen_exit, ABlock_normal, ABlock_ret, ABlock_exit, AScope_normal, AScope_ret, AScope_exit, RetK_ret, RetK_normal, retAV_one, retAV_two, retAV_three, retAV_nil, RG_nil, RG_op, RG_guard, gdR_tt, gdR_ff, gdR_tf, gdR_ft, gdR_un, RG_call, callQ_clo, contK_ap, opR_some, RD_nil, RD_op0, RD_op1, opD0_some, opD1_some, RD_call, callQD_clo, RD_guard, gdD_tt, gdD_ff, gdD_tf, gdD_ft, gdD_un, psh_nil, psh_cons, Apt_nil, Apt_nilT, Apt_true, Apt_false, Dis_def, runT_val, runT_rd, runT_wr, runT_new, runT_mv, ex, put_some, put_none, ev_t, ev_c, argF_zero, argF_succ, set_g, set_n, cells_v, cells_sl, cells_agg, cells_own, cells_ptr, cells_clo, cells_eptr, cells_mp, putc, exBslice, lfill, exField, exIdxV, exIdxP, exBox, exAlloc, exLoad, exStore, exFieldA, exIdxA, exLen, exPick, exUn, exBeq, exMM, exSeq, seqGo, exExt, binV, intOp, subc, AV.solid, S0, encI, encB]
  refine CallR.pure hgn (cl_cons cn (cl_cons (closed_I _) cl_nil)) (closed_B _) ?_
  cases gn with
  | true =>
    simp [AW_seq, AW_reg, AW_regD, AW_block, AW_cond, AW_skip, AW_exit, AW_ret, AW_scp, condR_true, condR_false, AThen_normal, AThen_ret, AThen_exit, ABlock_normal, ABlock_ret, ABlock_exit, AScope_normal, AScope_ret, AScope_exit, RetK_ret, RetK_normal, retAV_one, retAV_two, retAV_three, retAV_nil, RG_nil, RG_op, RG_guard, gdR_tt, gdR_ff, gdR_tf, gdR_ft, gdR_un, RG_call, callQ_clo, contK_ap, opR_some, RD_nil, RD_op0, RD_op1, opD0_some, opD1_some, RD_call, callQD_clo, RD_guard, gdD_tt, gdD_ff, gdD_tf, gdD_ft, gdD_un, psh_nil, psh_cons, Apt_nil, Apt_nilT, Apt_true, Apt_false, Dis_def, runT_val, runT_rd, runT_wr, runT_new, runT_mv, ex, put_some, put_none, ev_t, ev_c, argF_zero, argF_succ, set_g, set_n, cells_v, cells_sl, cells_agg, cells_own, cells_ptr, cells_clo, cells_eptr, cells_mp, putc, exBslice, lfill, exField, exIdxV, exIdxP, exBox, exAlloc, exLoad, exStore, exFieldA, exIdxA, exLen, exPick, exUn, exBeq, exMM, exSeq, seqGo, exExt, binV, intOp, subc, AV.solid, S0, encI, encB]
    exact FzK_B true _
  | false =>
    by_cases hlen : (12 : Int) < l.length
    · have hl' : 12 < l.length := by omega
      simp [AW_seq, AW_reg, AW_regD, AW_block, AW_cond, AW_skip, AW_exit, AW_ret, AW_scp, condR_true, condR_false, AThen_normal, AThen_ret, AThen_exit, ABlock_normal, ABlock_ret, ABlock_exit, AScope_normal, AScope_ret, AScope_exit, RetK_ret, RetK_normal, retAV_one, retAV_two, retAV_three, retAV_nil, RG_nil, RG_op, RG_guard, gdR_tt, gdR_ff, gdR_tf, gdR_ft, gdR_un, RG_call, callQ_clo, contK_ap, opR_some, RD_nil, RD_op0, RD_op1, opD0_some, opD1_some, RD_call, callQD_clo, RD_guard, gdD_tt, gdD_ff, gdD_tf, gdD_ft, gdD_un, psh_nil, psh_cons, Apt_nil, Apt_nilT, Apt_true, Apt_false, Dis_def, runT_val, runT_rd, runT_wr, runT_new, runT_mv, ex, put_some, put_none, ev_t, ev_c, argF_zero, argF_succ, set_g, set_n, cells_v, cells_sl, cells_agg, cells_own, cells_ptr, cells_clo, cells_eptr, cells_mp, putc, exBslice, lfill, exField, exIdxV, exIdxP, exBox, exAlloc, exLoad, exStore, exFieldA, exIdxA, exLen, exPick, exUn, exBeq, exMM, exSeq, seqGo, exExt, binV, intOp, subc, AV.solid, S0, encI, encB, encIs, hlen, hl']
      exact FzK_B true _
    · have hl' : ¬ 12 < l.length := by omega
      have h := H rfl (by omega)
      have hb := hb (by omega)
      have l1 := hll rfl
      have l2 := hlf rfl
      obtain ⟨k1, k2, k3, k4, k5, k6, k7, k8⟩ := h
      have cl := closed_Is l
      have c1 := cl_cons cn (cl_cons cl cl_nil)
      cases hr : rightN n with
      | false =>
        have hE : turnE n = 1 := by simp [turnE, hr]
        rw [hE] at k1
        rw [hr] at k2
        generalize turnD n = m at *
        have cm := closed_Net m
        have ct : Closed (.tup [encNet m, encI 1]) := .tup _ (cl_cons cm (cl_cons (closed_I 1) cl_nil))
        simp only [encNet, encIs, encI, encIss] at cn cm ct c1 cl k1 k2
        simp [AW_seq, AW_reg, AW_regD, AW_block, AW_cond, AW_skip, AW_exit, AW_ret, AW_scp, condR_true, condR_false, AThen_normal, AThen_ret, AThen_exit, ABlock_normal, ABlock_ret, ABlock_exit, AScope_normal, AScope_ret, AScope_exit, RetK_ret, RetK_normal, retAV_one, retAV_two, retAV_three, retAV_nil, RG_nil, RG_op, RG_guard, gdR_tt, gdR_ff, gdR_tf, gdR_ft, gdR_un, RG_call, callQ_clo, contK_ap, opR_some, RD_nil, RD_op0, RD_op1, opD0_some, opD1_some, RD_call, callQD_clo, RD_guard, gdD_tt, gdD_ff, gdD_tf, gdD_ft, gdD_un, psh_nil, psh_cons, Apt_nil, Apt_nilT, Apt_true, Apt_false, Dis_def, runT_val, runT_rd, runT_wr, runT_new, runT_mv, ex, put_some, put_none, ev_t, ev_c, argF_zero, argF_succ, set_g, set_n, cells_v, cells_sl, cells_agg, cells_own, cells_ptr, cells_clo, cells_eptr, cells_mp, putc, exBslice, lfill, exField, exIdxV, exIdxP, exBox, exAlloc, exLoad, exStore, exFieldA, exIdxA, exLen, exPick, exUn, exBeq, exMM, exSeq, seqGo, exExt, binV, intOp, subc, AV.solid, S0, encI, encB, encIs, hlen, hl']
        refine CallR.pure k1 (cl_cons cn cl_nil) ct ?_
        simp [AW_seq, AW_reg, AW_regD, AW_block, AW_cond, AW_skip, AW_exit, AW_ret, AW_scp, condR_true, condR_false, AThen_normal, AThen_ret, AThen_exit, ABlock_normal, ABlock_ret, ABlock_exit, AScope_normal, AScope_ret, AScope_exit, RetK_ret, RetK_normal, retAV_one, retAV_two, retAV_three, retAV_nil, RG_nil, RG_op, RG_guard, gdR_tt, gdR_ff, gdR_tf, gdR_ft, gdR_un, RG_call, callQ_clo, contK_ap, opR_some, RD_nil, RD_op0, RD_op1, opD0_some, opD1_some, RD_call, callQD_clo, RD_guard, gdD_tt, gdD_ff, gdD_tf, gdD_ft, gdD_un, psh_nil, psh_cons, Apt_nil, Apt_nilT, Apt_true, Apt_false, Dis_def, runT_val, runT_rd, runT_wr, runT_new, runT_mv, ex, put_some, put_none, ev_t, ev_c, argF_zero, argF_succ, set_g, set_n, cells_v, cells_sl, cells_agg, cells_own, cells_ptr, cells_clo, cells_eptr, cells_mp, putc, exBslice, lfill, exField, exIdxV, exIdxP, exBox, exAlloc, exLoad, exStore, exFieldA, exIdxA, exLen, exPick, exUn, exBeq, exMM, exSeq, seqGo, exExt, binV, intOp, subc, AV.solid, S0, encI, encB]
        refine CallR.pure k2 (cl_cons cn cl_nil) (closed_B _) ?_
        simp [AW_seq, AW_reg, AW_regD, AW_block, AW_cond, AW_skip, AW_exit, AW_ret, AW_scp, condR_true, condR_false, AThen_normal, AThen_ret, AThen_exit, ABlock_normal, ABlock_ret, ABlock_exit, AScope_normal, AScope_ret, AScope_exit, RetK_ret, RetK_normal, retAV_one, retAV_two, retAV_three, retAV_nil, RG_nil, RG_op, RG_guard, gdR_tt, gdR_ff, gdR_tf, gdR_ft, gdR_un, RG_call, callQ_clo, contK_ap, opR_some, RD_nil, RD_op0, RD_op1, opD0_some, opD1_some, RD_call, callQD_clo, RD_guard, gdD_tt, gdD_ff, gdD_tf, gdD_ft, gdD_un, psh_nil, psh_cons, Apt_nil, Apt_nilT, Apt_true, Apt_false, Dis_def, runT_val, runT_rd, runT_wr, runT_new, runT_mv, ex, put_some, put_none, ev_t, ev_c, argF_zero, argF_succ, set_g, set_n, cells_v, cells_sl, cells_agg, cells_own, cells_ptr, cells_clo, cells_eptr, cells_mp, putc, exBslice, lfill, exField, exIdxV, exIdxP, exBox, exAlloc, exLoad, exStore, exFieldA, exIdxA, exLen, exPick, exUn, exBeq, exMM, exSeq, seqGo, exExt, binV, intOp, subc, AV.solid, S0, encI, encB]
        exact FzK_B true _
      | true =>
        have hE : turnE n = 0 := by simp [turnE, hr]
        have hD : turnD n = turnN n := by simp [turnD, hr]
        rw [hE, hD] at k1
        have R := (rightN_iff n).mp hr
        have L2 : Len (headsN (turnN n) l.reverse) := by rw [← hD, tails_eq]; have := filtL_len (tlP n l) (l.length + 1); unfold Len; omega
        have k3 := k3 hr
        have k4 := k4 hr
        have k6 := k6 hr
        have k7 := k7 hr
        have k8 := k8 hr
        have hn1 := R.n1
        have hfl := R.len
        have hf0 : 0 < n.follow.length := by omega
        have hff : n.follow.getD 0 [] = n.follow[0] := follow_getD hf0
        rw [hff] at l2
        have k9 := hi _ _ l1 l1
        have k10 := hi _ _ l2 l2
        have k11 := hi _ _ L2 L2
        rw [beq_self_eq_true] at k9 k10 k11
        generalize turnN n = m at *
        generalize headsN m l.reverse = h2 at *
        generalize accN n l = b at *
        generalize l.reverse = r at *
        have cm := closed_Net m
        have ct : Closed (.tup [encNet m, encI 0]) := .tup _ (cl_cons cm (cl_cons (closed_I 0) cl_nil))
        have ct2 : Closed (.tup [encNet n, encI 0]) := .tup _ (cl_cons cn (cl_cons (closed_I 0) cl_nil))
        have D4 := K k4 (cl_cons cm cl_nil) (closed_B _)
        have D5 := K k5 c1 (closed_B _)
        have D6 := K k6 (cl_cons cm (cl_cons (closed_Is _) cl_nil)) (closed_B _)
        have D7 := K k7 (cl_cons cm (cl_cons (closed_Is _) cl_nil)) (closed_Is _)
        have D8 := K k8 c1 (closed_Is _)
        have D9 := K k9 (cl_cons (closed_Is n.last) (cl_cons (closed_Is n.last) cl_nil)) (closed_B _)
        have D10 := K k10 (cl_cons (closed_Is n.follow[0]) (cl_cons (closed_Is n.follow[0]) cl_nil)) (closed_B _)
        have D11 := K k11 (cl_cons (closed_Is h2) (cl_cons (closed_Is h2) cl_nil)) (closed_B _)
        have cr := closed_Is r
        simp only [encNet, encIs, encI, encIss] at cn cm ct ct2 c1 cl k1 k3 hb cr D4 D5 D6 D7 D8 D9 D10 D11
        simp [AW_seq, AW_reg, AW_regD, AW_block, AW_cond, AW_skip, AW_exit, AW_ret, AW_scp, condR_true, condR_false, AThen_normal, AThen_ret, AThen_exit, ABlock_normal, ABlock_ret, ABlock_exit, AScope_normal, AScope_ret, AScope_exit, RetK_ret, RetK_normal, retAV_one, retAV_two, retAV_three, retAV_nil, RG_nil, RG_op, RG_guard, gdR_tt, gdR_ff, gdR_tf, gdR_ft, gdR_un, RG_call, callQ_clo, contK_ap, opR_some, RD_nil, RD_op0, RD_op1, opD0_some, opD1_some, RD_call, callQD_clo, RD_guard, gdD_tt, gdD_ff, gdD_tf, gdD_ft, gdD_un, psh_nil, psh_cons, Apt_nil, Apt_nilT, Apt_true, Apt_false, Dis_def, runT_val, runT_rd, runT_wr, runT_new, runT_mv, ex, put_some, put_none, ev_t, ev_c, argF_zero, argF_succ, set_g, set_n, cells_v, cells_sl, cells_agg, cells_own, cells_ptr, cells_clo, cells_eptr, cells_mp, putc, exBslice, lfill, exField, exIdxV, exIdxP, exBox, exAlloc, exLoad, exStore, exFieldA, exIdxA, exLen, exPick, exUn, exBeq, exMM, exSeq, seqGo, exExt, binV, intOp, subc, AV.solid, S0, encI, encB, encIs, hlen, hl']
        refine CallR.pure k1 (cl_cons cn cl_nil) ct ?_
        simp [AW_seq, AW_reg, AW_regD, AW_block, AW_cond, AW_skip, AW_exit, AW_ret, AW_scp, condR_true, condR_false, AThen_normal, AThen_ret, AThen_exit, ABlock_normal, ABlock_ret, ABlock_exit, AScope_normal, AScope_ret, AScope_exit, RetK_ret, RetK_normal, retAV_one, retAV_two, retAV_three, retAV_nil, RG_nil, RG_op, RG_guard, gdR_tt, gdR_ff, gdR_tf, gdR_ft, gdR_un, RG_call, callQ_clo, contK_ap, opR_some, RD_nil, RD_op0, RD_op1, opD0_some, opD1_some, RD_call, callQD_clo, RD_guard, gdD_tt, gdD_ff, gdD_tf, gdD_ft, gdD_un, psh_nil, psh_cons, Apt_nil, Apt_nilT, Apt_true, Apt_false, Dis_def, runT_val, runT_rd, runT_wr, runT_new, runT_mv, ex, put_some, put_none, ev_t, ev_c, argF_zero, argF_succ, set_g, set_n, cells_v, cells_sl, cells_agg, cells_own, cells_ptr, cells_clo, cells_eptr, cells_mp, putc, exBslice, lfill, exField, exIdxV, exIdxP, exBox, exAlloc, exLoad, exStore, exFieldA, exIdxA, exLen, exPick, exUn, exBeq, exMM, exSeq, seqGo, exExt, binV, intOp, subc, AV.solid, S0, encI, encB]
        refine CallR.pure k3 (cl_cons cm cl_nil) ct2 ?_
        simp [AW_seq, AW_reg, AW_regD, AW_block, AW_cond, AW_skip, AW_exit, AW_ret, AW_scp, condR_true, condR_false, AThen_normal, AThen_ret, AThen_exit, ABlock_normal, ABlock_ret, ABlock_exit, AScope_normal, AScope_ret, AScope_exit, RetK_ret, RetK_normal, retAV_one, retAV_two, retAV_three, retAV_nil, RG_nil, RG_op, RG_guard, gdR_tt, gdR_ff, gdR_tf, gdR_ft, gdR_un, RG_call, callQ_clo, contK_ap, opR_some, RD_nil, RD_op0, RD_op1, opD0_some, opD1_some, RD_call, callQD_clo, RD_guard, gdD_tt, gdD_ff, gdD_tf, gdD_ft, gdD_un, psh_nil, psh_cons, Apt_nil, Apt_nilT, Apt_true, Apt_false, Dis_def, runT_val, runT_rd, runT_wr, runT_new, runT_mv, ex, put_some, put_none, ev_t, ev_c, argF_zero, argF_succ, set_g, set_n, cells_v, cells_sl, cells_agg, cells_own, cells_ptr, cells_clo, cells_eptr, cells_mp, putc, exBslice, lfill, exField, exIdxV, exIdxP, exBox, exAlloc, exLoad, exStore, exFieldA, exIdxA, exLen, exPick, exUn, exBeq, exMM, exSeq, seqGo, exExt, binV, intOp, subc, AV.solid, S0, encI, encB]
        refine CallR.pure hb (cl_cons cl cl_nil) cr ?_
        simp [AW_seq, AW_reg, AW_regD, AW_block, AW_cond, AW_skip, AW_exit, AW_ret, AW_scp, condR_true, condR_false, AThen_normal, AThen_ret, AThen_exit, ABlock_normal, ABlock_ret, ABlock_exit, AScope_normal, AScope_ret, AScope_exit, RetK_ret, RetK_normal, retAV_one, retAV_two, retAV_three, retAV_nil, RG_nil, RG_op, RG_guard, gdR_tt, gdR_ff, gdR_tf, gdR_ft, gdR_un, RG_call, callQ_clo, contK_ap, opR_some, RD_nil, RD_op0, RD_op1, opD0_some, opD1_some, RD_call, callQD_clo, RD_guard, gdD_tt, gdD_ff, gdD_tf, gdD_ft, gdD_un, psh_nil, psh_cons, Apt_nil, Apt_nilT, Apt_true, Apt_false, Dis_def, runT_val, runT_rd, runT_wr, runT_new, runT_mv, ex, put_some, put_none, ev_t, ev_c, argF_zero, argF_succ, set_g, set_n, cells_v, cells_sl, cells_agg, cells_own, cells_ptr, cells_clo, cells_eptr, cells_mp, putc, exBslice, lfill, exField, exIdxV, exIdxP, exBox, exAlloc, exLoad, exStore, exFieldA, exIdxA, exLen, exPick, exUn, exBeq, exMM, exSeq, seqGo, exExt, binV, intOp, subc, AV.solid, S0, encI, encB]
        refine ⟨_, ⟨_, D4 _ _⟩, ?_⟩
        simp [AW_seq, AW_reg, AW_regD, AW_block, AW_cond, AW_skip, AW_exit, AW_ret, AW_scp, condR_true, condR_false, AThen_normal, AThen_ret, AThen_exit, ABlock_normal, ABlock_ret, ABlock_exit, AScope_normal, AScope_ret, AScope_exit, RetK_ret, RetK_normal, retAV_one, retAV_two, retAV_three, retAV_nil, RG_nil, RG_op, RG_guard, gdR_tt, gdR_ff, gdR_tf, gdR_ft, gdR_un, RG_call, callQ_clo, contK_ap, opR_some, RD_nil, RD_op0, RD_op1, opD0_some, opD1_some, RD_call, callQD_clo, RD_guard, gdD_tt, gdD_ff, gdD_tf, gdD_ft, gdD_un, psh_nil, psh_cons, Apt_nil, Apt_nilT, Apt_true, Apt_false, Dis_def, runT_val, runT_rd, runT_wr, runT_new, runT_mv, ex, put_some, put_none, ev_t, ev_c, argF_zero, argF_succ, set_g, set_n, cells_v, cells_sl, cells_agg, cells_own, cells_ptr, cells_clo, cells_eptr, cells_mp, putc, exBslice, lfill, exField, exIdxV, exIdxP, exBox, exAlloc, exLoad, exStore, exFieldA, exIdxA, exLen, exPick, exUn, exBeq, exMM, exSeq, seqGo, exExt, binV, intOp, subc, AV.solid, S0, encI, encB]
        refine ⟨_, ⟨_, D5 _ _⟩, _, ⟨_, D5 _ _⟩, ?_⟩
        simp [AW_seq, AW_reg, AW_regD, AW_block, AW_cond, AW_skip, AW_exit, AW_ret, AW_scp, condR_true, condR_false, AThen_normal, AThen_ret, AThen_exit, ABlock_normal, ABlock_ret, ABlock_exit, AScope_normal, AScope_ret, AScope_exit, RetK_ret, RetK_normal, retAV_one, retAV_two, retAV_three, retAV_nil, RG_nil, RG_op, RG_guard, gdR_tt, gdR_ff, gdR_tf, gdR_ft, gdR_un, RG_call, callQ_clo, contK_ap, opR_some, RD_nil, RD_op0, RD_op1, opD0_some, opD1_some, RD_call, callQD_clo, RD_guard, gdD_tt, gdD_ff, gdD_tf, gdD_ft, gdD_un, psh_nil, psh_cons, Apt_nil, Apt_nilT, Apt_true, Apt_false, Dis_def, runT_val, runT_rd, runT_wr, runT_new, runT_mv, ex, put_some, put_none, ev_t, ev_c, argF_zero, argF_succ, set_g, set_n, cells_v, cells_sl, cells_agg, cells_own, cells_ptr, cells_clo, cells_eptr, cells_mp, putc, exBslice, lfill, exField, exIdxV, exIdxP, exBox, exAlloc, exLoad, exStore, exFieldA, exIdxA, exLen, exPick, exUn, exBeq, exMM, exSeq, seqGo, exExt, binV, intOp, subc, AV.solid, S0, encI, encB]
        refine ⟨_, ⟨_, D6 _ _⟩, _, ⟨_, D5 _ _⟩, ?_⟩
        simp [AW_seq, AW_reg, AW_regD, AW_block, AW_cond, AW_skip, AW_exit, AW_ret, AW_scp, condR_true, condR_false, AThen_normal, AThen_ret, AThen_exit, ABlock_normal, ABlock_ret, ABlock_exit, AScope_normal, AScope_ret, AScope_exit, RetK_ret, RetK_normal, retAV_one, retAV_two, retAV_three, retAV_nil, RG_nil, RG_op, RG_guard, gdR_tt, gdR_ff, gdR_tf, gdR_ft, gdR_un, RG_call, callQ_clo, contK_ap, opR_some, RD_nil, RD_op0, RD_op1, opD0_some, opD1_some, RD_call, callQD_clo, RD_guard, gdD_tt, gdD_ff, gdD_tf, gdD_ft, gdD_un, psh_nil, psh_cons, Apt_nil, Apt_nilT, Apt_true, Apt_false, Dis_def, runT_val, runT_rd, runT_wr, runT_new, runT_mv, ex, put_some, put_none, ev_t, ev_c, argF_zero, argF_succ, set_g, set_n, cells_v, cells_sl, cells_agg, cells_own, cells_ptr, cells_clo, cells_eptr, cells_mp, putc, exBslice, lfill, exField, exIdxV, exIdxP, exBox, exAlloc, exLoad, exStore, exFieldA, exIdxA, exLen, exPick, exUn, exBeq, exMM, exSeq, seqGo, exExt, binV, intOp, subc, AV.solid, S0, encI, encB]
        refine ⟨_, ⟨_, D7 _ _⟩, _, ⟨_, D8 _ _⟩, _, ⟨_, D11 _ _⟩, ?_⟩
        simp [AW_seq, AW_reg, AW_regD, AW_block, AW_cond, AW_skip, AW_exit, AW_ret, AW_scp, condR_true, condR_false, AThen_normal, AThen_ret, AThen_exit, ABlock_normal, ABlock_ret, ABlock_exit, AScope_normal, AScope_ret, AScope_exit, RetK_ret, RetK_normal, retAV_one, retAV_two, retAV_three, retAV_nil, RG_nil, RG_op, RG_guard, gdR_tt, gdR_ff, gdR_tf, gdR_ft, gdR_un, RG_call, callQ_clo, contK_ap, opR_some, RD_nil, RD_op0, RD_op1, opD0_some, opD1_some, RD_call, callQD_clo, RD_guard, gdD_tt, gdD_ff, gdD_tf, gdD_ft, gdD_un, psh_nil, psh_cons, Apt_nil, Apt_nilT, Apt_true, Apt_false, Dis_def, runT_val, runT_rd, runT_wr, runT_new, runT_mv, ex, put_some, put_none, ev_t, ev_c, argF_zero, argF_succ, set_g, set_n, cells_v, cells_sl, cells_agg, cells_own, cells_ptr, cells_clo, cells_eptr, cells_mp, putc, exBslice, lfill, exField, exIdxV, exIdxP, exBox, exAlloc, exLoad, exStore, exFieldA, exIdxA, exLen, exPick, exUn, exBeq, exMM, exSeq, seqGo, exExt, binV, intOp, subc, AV.solid, S0, encI, encB]
        refine ⟨_, ⟨_, D9 _ _⟩, ?_⟩
        simp [AW_seq, AW_reg, AW_regD, AW_block, AW_cond, AW_skip, AW_exit, AW_ret, AW_scp, condR_true, condR_false, AThen_normal, AThen_ret, AThen_exit, ABlock_normal, ABlock_ret, ABlock_exit, AScope_normal, AScope_ret, AScope_exit, RetK_ret, RetK_normal, retAV_one, retAV_two, retAV_three, retAV_nil, RG_nil, RG_op, RG_guard, gdR_tt, gdR_ff, gdR_tf, gdR_ft, gdR_un, RG_call, callQ_clo, contK_ap, opR_some, RD_nil, RD_op0, RD_op1, opD0_some, opD1_some, RD_call, callQD_clo, RD_guard, gdD_tt, gdD_ff, gdD_tf, gdD_ft, gdD_un, psh_nil, psh_cons, Apt_nil, Apt_nilT, Apt_true, Apt_false, Dis_def, runT_val, runT_rd, runT_wr, runT_new, runT_mv, ex, put_some, put_none, ev_t, ev_c, argF_zero, argF_succ, set_g, set_n, cells_v, cells_sl, cells_agg, cells_own, cells_ptr, cells_clo, cells_eptr, cells_mp, putc, exBslice, lfill, exField, exIdxV, exIdxP, exBox, exAlloc, exLoad, exStore, exFieldA, exIdxA, exLen, exPick, exUn, exBeq, exMM, exSeq, seqGo, exExt, binV, intOp, subc, AV.solid, S0, encI, encB, encIss, encIs, hf0]
        refine ⟨_, ⟨_, D10 _ _⟩, ?_⟩
        simp [AW_seq, AW_reg, AW_regD, AW_block, AW_cond, AW_skip, AW_exit, AW_ret, AW_scp, condR_true, condR_false, AThen_normal, AThen_ret, AThen_exit, ABlock_normal, ABlock_ret, ABlock_exit, AScope_normal, AScope_ret, AScope_exit, RetK_ret, RetK_normal, retAV_one, retAV_two, retAV_three, retAV_nil, RG_nil, RG_op, RG_guard, gdR_tt, gdR_ff, gdR_tf, gdR_ft, gdR_un, RG_call, callQ_clo, contK_ap, opR_some, RD_nil, RD_op0, RD_op1, opD0_some, opD1_some, RD_call, callQD_clo, RD_guard, gdD_tt, gdD_ff, gdD_tf, gdD_ft, gdD_un, psh_nil, psh_cons, Apt_nil, Apt_nilT, Apt_true, Apt_false, Dis_def, runT_val, runT_rd, runT_wr, runT_new, runT_mv, ex, put_some, put_none, ev_t, ev_c, argF_zero, argF_succ, set_g, set_n, cells_v, cells_sl, cells_agg, cells_own, cells_ptr, cells_clo, cells_eptr, cells_mp, putc, exBslice, lfill, exField, exIdxV, exIdxP, exBox, exAlloc, exLoad, exStore, exFieldA, exIdxA, exLen, exPick, exUn, exBeq, exMM, exSeq, seqGo, exExt, binV, intOp, subc, AV.solid, S0, encI, encB]
        exact FzK_B true _
end Go.Rf


/- Own work: BackHeads, gone through. -/
set_option linter.unusedVariables false
set_option linter.unusedSimpArgs false
namespace Go.Rf
open Go.RowKit

structure HHeads (P : Program) (n : Net) (l : List Int) (bh bl fa bd : FuncId) : Prop where
  kbh : ∀ k, k ≤ l.length → PureC P bh [encNet n, encIs (l.take k)] (encIs (headsN n (l.take k)))
  kbl : PureC P bl [encNet n, encIs l] (encIs (headsN (turnD n) l.reverse))
  kac : PureC P fa [encNet n, encIs l] (encB (accN n l))
  kbd : ∀ k, k ≤ l.length → PureC P bd [encNet n, encIs (l.take k)] (encB (decide (headsN n (l.take k) ≠ [])))
end Go.Rf

