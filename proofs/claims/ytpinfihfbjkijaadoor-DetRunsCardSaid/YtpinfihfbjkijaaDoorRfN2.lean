import Derived.Test.YtpinfihfbjkijaaDoorRfN1
/- Own work: automata that may choose: how great they are, whether they are right, whether they are the same. -/
set_option linter.unusedVariables false
set_option linter.unusedSimpArgs false
namespace Go.Rf
open Go.RowKit

def c_nr_loop (f_net_lies : FuncId) : AC :=
  (.block 0 (.loop (.seq (.reg none [
     ⟨(some 48), .bin .lss (.t 47) (.t 46), none, none⟩])
    (.seq (.cond (.t 48) .skip (.exit 0))
    (.seq (.block 1 (.seq (.reg none [
      ⟨(some 49), .mv (.t 47), none, none⟩,
      ⟨(some 4), .mv (.t 49), none, none⟩])
     (.seq (.reg (some []) [
      ⟨(some 50), .fieldA 1 (.t 1), none, none⟩,
      ⟨(some 51), .load none (.t 50), none, none⟩,
      ⟨(some 52), .mv (.t 4), none, none⟩,
      ⟨(some 53), .idxA 1 (.t 51) (.t 52), none, none⟩,
      ⟨(some 54), .load none (.t 53), none, none⟩,
      ⟨(some 55), .fieldA 0 (.t 1), none, none⟩,
      ⟨(some 56), .load none (.t 55), none, none⟩,
      ⟨(some 57), .mv (.c .junk), none, (some ((.c (.clo f_net_lies [] [])), [(.t 54), (.c (.v (.int .i64 0))), (.t 56)]))⟩,
      ⟨(some 58), .un .not (.t 57), none, none⟩,
      ⟨(some 59), .mv (.t 58), none, none⟩,
      ⟨(some 60), .fieldA 2 (.t 1), (some (59, false)), none⟩,
      ⟨(some 61), .load none (.t 60), (some (59, false)), none⟩,
      ⟨(some 62), .mv (.t 4), (some (59, false)), none⟩,
      ⟨(some 63), .idxA 1 (.t 61) (.t 62), (some (59, false)), none⟩,
      ⟨(some 64), .load none (.t 63), (some (59, false)), none⟩,
      ⟨(some 65), .mv (.t 3), (some (59, false)), none⟩,
      ⟨(some 66), .mv (.c .junk), (some (59, false)), (some ((.c (.clo f_net_lies [] [])), [(.t 64), (.c (.v (.int .i64 1))), (.t 65)]))⟩,
      ⟨(some 67), .un .not (.t 66), (some (59, false)), none⟩,
      ⟨(some 68), .pick (.t 59) (.c (.v (.bool true))) (.t 67), none, none⟩])
     (.cond (.t 68) (.seq (.reg none [
       ⟨(some 2), .mv (.c (.v (.bool false))), none, none⟩])
      .ret) .skip))))
    (.reg none [
     ⟨(some 69), .bin .add (.t 47) (.c (.v (.int .i64 1))), none, none⟩,
     ⟨(some 47), .mv (.t 69), none, none⟩]))))))
def c_net_Right (f_net_lies : FuncId) : AC :=
  (.seq (.reg none [
   ⟨(some 1), .box 4 (.t 0), none, none⟩,
   ⟨(some 2), .mv (.c (.v (.bool false))), none, none⟩])
  (.seq (.reg none [
   ⟨(some 5), .fieldA 1 (.t 1), none, none⟩,
   ⟨(some 6), .load none (.t 5), none, none⟩,
   ⟨(some 7), .len (.t 6), none, none⟩,
   ⟨(some 3), .mv (.t 7), none, none⟩])
  (.seq (.seq (.reg none [
   ⟨(some 8), .fieldA 0 (.t 1), none, none⟩,
   ⟨(some 9), .load none (.t 8), none, none⟩,
   ⟨(some 10), .bin .lss (.t 9) (.c (.v (.int .i64 1))), none, none⟩,
   ⟨(some 11), .mv (.t 10), none, none⟩,
   ⟨(some 12), .fieldA 0 (.t 1), (some (11, false)), none⟩,
   ⟨(some 13), .load none (.t 12), (some (11, false)), none⟩,
   ⟨(some 14), .bin .gtr (.t 13) (.c (.v (.int .i64 400))), (some (11, false)), none⟩,
   ⟨(some 15), .pick (.t 11) (.c (.v (.bool true))) (.t 14), none, none⟩,
   ⟨(some 16), .mv (.t 15), none, none⟩,
   ⟨(some 17), .mv (.t 3), (some (16, false)), none⟩,
   ⟨(some 18), .bin .eql (.t 17) (.c (.v (.int .i64 0))), (some (16, false)), none⟩,
   ⟨(some 19), .pick (.t 16) (.c (.v (.bool true))) (.t 18), none, none⟩,
   ⟨(some 20), .mv (.t 19), none, none⟩,
   ⟨(some 21), .mv (.t 3), (some (20, false)), none⟩,
   ⟨(some 22), .bin .gtr (.t 21) (.c (.v (.int .i64 301))), (some (20, false)), none⟩,
   ⟨(some 23), .pick (.t 20) (.c (.v (.bool true))) (.t 22), none, none⟩,
   ⟨(some 24), .mv (.t 23), none, none⟩,
   ⟨(some 25), .fieldA 2 (.t 1), (some (24, false)), none⟩,
   ⟨(some 26), .load none (.t 25), (some (24, false)), none⟩,
   ⟨(some 27), .len (.t 26), (some (24, false)), none⟩,
   ⟨(some 28), .mv (.t 3), (some (24, false)), none⟩,
   ⟨(some 29), .bin .neq (.t 27) (.t 28), (some (24, false)), none⟩,
   ⟨(some 30), .pick (.t 24) (.c (.v (.bool true))) (.t 29), none, none⟩,
   ⟨(some 31), .mv (.t 30), none, none⟩,
   ⟨(some 32), .fieldA 1 (.t 1), (some (31, false)), none⟩,
   ⟨(some 33), .load none (.t 32), (some (31, false)), none⟩,
   ⟨(some 34), .idxA 1 (.t 33) (.c (.v (.int .i64 0))), (some (31, false)), none⟩,
   ⟨(some 35), .load none (.t 34), (some (31, false)), none⟩,
   ⟨(some 36), .len (.t 35), (some (31, false)), none⟩,
   ⟨(some 37), .bin .gtr (.t 36) (.c (.v (.int .i64 0))), (some (31, false)), none⟩,
   ⟨(some 38), .pick (.t 31) (.c (.v (.bool true))) (.t 37), none, none⟩,
   ⟨(some 39), .mv (.t 38), none, none⟩,
   ⟨(some 40), .fieldA 3 (.t 1), (some (39, false)), none⟩,
   ⟨(some 41), .load none (.t 40), (some (39, false)), none⟩,
   ⟨(some 42), .mv (.t 3), (some (39, false)), none⟩,
   ⟨(some 43), .mv (.c .junk), (some (39, false)), (some ((.c (.clo f_net_lies [] [])), [(.t 41), (.c (.v (.int .i64 0))), (.t 42)]))⟩,
   ⟨(some 44), .un .not (.t 43), (some (39, false)), none⟩,
   ⟨(some 45), .pick (.t 39) (.c (.v (.bool true))) (.t 44), none, none⟩])
  (.cond (.t 45) (.seq (.reg none [
    ⟨(some 2), .mv (.c (.v (.bool false))), none, none⟩])
   .ret) .skip))
  (.seq (.seq (.reg none [
   ⟨(some 46), .mv (.t 3), none, none⟩,
   ⟨(some 47), .mv (.c (.v (.int .i64 0))), none, none⟩])
  (c_nr_loop f_net_lies))
  (.seq (.reg none [
   ⟨(some 2), .mv (.c (.v (.bool true))), none, none⟩])
  .ret)))))
structure Net where
  signs : Int
  by_ : List (List Int)
  follow : List (List Int)
  last : List Int
  deriving DecidableEq
def encNet (n : Net) : AV := .agg [encI n.signs, encIss n.by_, encIss n.follow, encIs n.last]
theorem closed_Net (n : Net) : Closed (encNet n) := .agg _ (by
  intro y hy
  simp only [List.mem_cons, List.not_mem_nil, or_false] at hy
  rcases hy with rfl | rfl | rfl | rfl
  · exact closed_I _
  · exact closed_Iss _
  · exact closed_Iss _
  · exact closed_Is _)
structure NetOk (n : Net) : Prop where
  by_ : Len n.by_
  follow : Len n.follow
  last : Len n.last
  byr : ∀ r ∈ n.by_, Len r
  followr : ∀ r ∈ n.follow, Len r
def rightN (n : Net) : Bool := decide (1 ≤ n.signs) && decide (n.signs ≤ 400) && decide (1 ≤ n.by_.length) && decide (n.by_.length ≤ 301) && decide (n.follow.length = n.by_.length) && decide ((n.by_.getD 0 []).length = 0) && risesB n.last 0 n.by_.length &&
  (List.range n.by_.length).all fun i => risesB (n.by_.getD i []) 0 n.signs && risesB (n.follow.getD i []) 1 n.by_.length
structure RightN (n : Net) : Prop where
  s1 : 1 ≤ n.signs
  s2 : n.signs ≤ 400
  n1 : 1 ≤ n.by_.length
  n2 : n.by_.length ≤ 301
  len : n.follow.length = n.by_.length
  by0 : n.by_.getD 0 [] = []
  last : RisesP n.last 0 n.by_.length
  by_ : ∀ i (h : i < n.by_.length), RisesP n.by_[i] 0 n.signs
  follow : ∀ i (h : i < n.follow.length), RisesP n.follow[i] 1 n.by_.length
theorem rightN_iff (n : Net) : rightN n = true ↔ RightN n := by
  simp only [rightN, Bool.and_eq_true, decide_eq_true_eq, List.all_eq_true, List.mem_range, risesB_iff]
  constructor
  · rintro ⟨⟨⟨⟨⟨⟨⟨h1, h2⟩, h3⟩, h4⟩, h5⟩, h6⟩, h7⟩, h8⟩
    refine ⟨h1, h2, h3, h4, h5, List.eq_nil_of_length_eq_zero h6, h7, fun i h => ?_, fun i h => ?_⟩
    · have := (h8 i h).1
      rw [List.getD_eq_getElem?_getD, List.getElem?_eq_getElem h] at this; exact this
    · have := (h8 i (by omega)).2
      rw [List.getD_eq_getElem?_getD, List.getElem?_eq_getElem h] at this; exact this
  · intro h
    refine ⟨⟨⟨⟨⟨⟨⟨h.s1, h.s2⟩, h.n1⟩, h.n2⟩, h.len⟩, by rw [h.by0]; rfl⟩, h.last⟩, fun i hi => ⟨?_, ?_⟩⟩
    · have := h.by_ i hi
      rw [List.getD_eq_getElem?_getD, List.getElem?_eq_getElem hi]; exact this
    · have hi2 : i < n.follow.length := by rw [h.len]; exact hi
      have := h.follow i hi2
      rw [List.getD_eq_getElem?_getD, List.getElem?_eq_getElem hi2]; exact this
theorem rightN_no {n : Net} {x : Prop} (hx : ¬ x) (h : RightN n → x) : rightN n = false := by
  cases hr : rightN n with
  | false => rfl
  | true => exact (hx (h ((rightN_iff n).mp hr))).elim
def Net.rows (n : Net) : List (List Int) := n.last :: (n.by_ ++ n.follow)
def okRow (n : Net) (i : Nat) : Bool := risesB (n.by_.getD i []) 0 n.signs && risesB (n.follow.getD i []) 1 n.by_.length
def HLie (P : Program) (fl : FuncId) (n : Net) : Prop := ∀ l ∈ n.rows, ∀ a b, PureC P fl [encIs l, encI a, encI b] (encB (risesB l a b))
theorem nr_loop {P : Program} {fl : FuncId} {n : Net} (hl : HLie P fl n) (hlen : n.follow.length = n.by_.length) (hk : n.by_.length ≤ 301) {f : AF} {S : St} {Q : Exit → AF → St → Prop} (e1 : f 1 = .ptr 0 0 0) (e3 : f 3 = encI n.by_.length) (e46 : f 46 = encI n.by_.length) (ei : f 47 = encI 0)
    (g0 : S.g 0 = some (.arr 4 [encNet n])) (h1 : (∀ i, i < n.by_.length → okRow n i = true) → ∀ f' S', Q .normal f' S') (h2 : (¬ ∀ i, i < n.by_.length → okRow n i = true) → ∀ f' S', f' 2 = encB false → Q .ret f' S') : AW P (c_nr_loop fl) Q f S := by
  simp [AW_seq, AW_reg, AW_regD, AW_block, AW_cond, AW_skip, AW_exit, AW_ret, AW_scp, condR_true, condR_false, AThen_normal, AThen_ret, AThen_exit, ABlock_normal, ABlock_ret, ABlock_exit, AScope_normal, AScope_ret, AScope_exit, RetK_ret, RetK_normal, retAV_one, retAV_two, retAV_three, retAV_nil, RG_nil, RG_op, RG_guard, gdR_tt, gdR_ff, gdR_tf, gdR_ft, gdR_un, RG_call, callQ_clo, contK_ap, opR_some, RD_nil, RD_op0, RD_op1, opD0_some, opD1_some, RD_call, callQD_clo, RD_guard, gdD_tt, gdD_ff, gdD_tf, gdD_ft, gdD_un, psh_nil, psh_cons, Apt_nil, Apt_nilT, Apt_true, Apt_false, Dis_def, runT_val, runT_rd, runT_wr, runT_new, runT_mv, ex, put_some, put_none, ev_t, ev_c, argF_zero, argF_succ, set_g, set_n, cells_v, cells_sl, cells_agg, cells_own, cells_ptr, cells_clo, cells_eptr, cells_mp, putc, exBslice, lfill, exField, exIdxV, exIdxP, exBox, exAlloc, exLoad, exStore, exFieldA, exIdxA, exLen, exPick, exUn, exBeq, exMM, exSeq, seqGo, exExt, binV, intOp, subc, AV.solid, S0, encI, encB, c_nr_loop]
  refine AW_for n.by_.length (fun i f S => f 1 = .ptr 0 0 0 ∧ f 3 = encI n.by_.length ∧ (f 46 = encI n.by_.length) ∧ f 47 = encI i ∧ S.g 0 = some (.arr 4 [encNet n]) ∧ ∀ j, j < i → okRow n j = true) ?_ ?_
  · exact ⟨e1, e3, e46, ei, g0, by omega⟩
  · rintro i f S hi ⟨e1, e3, e46, ei, g0, hq⟩
    simp only [encNet, encIss] at g0
    by_cases hlt : i < n.by_.length
    · have hlf : i < n.follow.length := by omega
      have gb : n.by_.getD i [] = n.by_[i] := by rw [List.getD_eq_getElem?_getD, List.getElem?_eq_getElem hlt]; rfl
      have gf : n.follow.getD i [] = n.follow[i] := by rw [List.getD_eq_getElem?_getD, List.getElem?_eq_getElem hlf]; rfl
      have k1 := hl n.by_[i] (by simp [Net.rows]) 0 n.signs
      have k2 := hl n.follow[i] (by simp [Net.rows]) 1 n.by_.length
      have c1 := cl_cons (closed_Is n.by_[i]) (cl_cons (closed_I 0) (cl_cons (closed_I n.signs) cl_nil))
      have c2 := cl_cons (closed_Is n.follow[i]) (cl_cons (closed_I 1) (cl_cons (closed_I n.by_.length) cl_nil))
      simp only [encIs, encI] at k1 k2 c1 c2
      have d1 : ∀ m g', CallD P fl [.sl false ((n.by_[i]).map encI), .v (.int .i64 0), .v (.int .i64 n.signs)] ⟨m, g'⟩ [] (encB (risesB n.by_[i] 0 n.signs)) := fun m g' => CallD.kl k1 c1 (closed_B _)
      have d2 : ∀ m g', CallD P fl [.sl false ((n.follow[i]).map encI), .v (.int .i64 1), .v (.int .i64 n.by_.length)] ⟨m, g'⟩ [] (encB (risesB n.follow[i] 1 n.by_.length)) := fun m g' => CallD.kl k2 c2 (closed_B _)
      simp [AW_seq, AW_reg, AW_regD, AW_block, AW_cond, AW_skip, AW_exit, AW_ret, AW_scp, condR_true, condR_false, AThen_normal, AThen_ret, AThen_exit, ABlock_normal, ABlock_ret, ABlock_exit, AScope_normal, AScope_ret, AScope_exit, RetK_ret, RetK_normal, retAV_one, retAV_two, retAV_three, retAV_nil, RG_nil, RG_op, RG_guard, gdR_tt, gdR_ff, gdR_tf, gdR_ft, gdR_un, RG_call, callQ_clo, contK_ap, opR_some, RD_nil, RD_op0, RD_op1, opD0_some, opD1_some, RD_call, callQD_clo, RD_guard, gdD_tt, gdD_ff, gdD_tf, gdD_ft, gdD_un, psh_nil, psh_cons, Apt_nil, Apt_nilT, Apt_true, Apt_false, Dis_def, runT_val, runT_rd, runT_wr, runT_new, runT_mv, ex, put_some, put_none, ev_t, ev_c, argF_zero, argF_succ, set_g, set_n, cells_v, cells_sl, cells_agg, cells_own, cells_ptr, cells_clo, cells_eptr, cells_mp, putc, exBslice, lfill, exField, exIdxV, exIdxP, exBox, exAlloc, exLoad, exStore, exFieldA, exIdxA, exLen, exPick, exUn, exBeq, exMM, exSeq, seqGo, exExt, binV, intOp, subc, AV.solid, S0, encI, encB, e1, e3, e46, ei, g0, hlt, hlf, encIs]
      refine ⟨_, ⟨_, d1 _ _⟩, ?_⟩
      cases hA : risesB n.by_[i] 0 n.signs with
      | false =>
        simp [AW_seq, AW_reg, AW_regD, AW_block, AW_cond, AW_skip, AW_exit, AW_ret, AW_scp, condR_true, condR_false, AThen_normal, AThen_ret, AThen_exit, ABlock_normal, ABlock_ret, ABlock_exit, AScope_normal, AScope_ret, AScope_exit, RetK_ret, RetK_normal, retAV_one, retAV_two, retAV_three, retAV_nil, RG_nil, RG_op, RG_guard, gdR_tt, gdR_ff, gdR_tf, gdR_ft, gdR_un, RG_call, callQ_clo, contK_ap, opR_some, RD_nil, RD_op0, RD_op1, opD0_some, opD1_some, RD_call, callQD_clo, RD_guard, gdD_tt, gdD_ff, gdD_tf, gdD_ft, gdD_un, psh_nil, psh_cons, Apt_nil, Apt_nilT, Apt_true, Apt_false, Dis_def, runT_val, runT_rd, runT_wr, runT_new, runT_mv, ex, put_some, put_none, ev_t, ev_c, argF_zero, argF_succ, set_g, set_n, cells_v, cells_sl, cells_agg, cells_own, cells_ptr, cells_clo, cells_eptr, cells_mp, putc, exBslice, lfill, exField, exIdxV, exIdxP, exBox, exAlloc, exLoad, exStore, exFieldA, exIdxA, exLen, exPick, exUn, exBeq, exMM, exSeq, seqGo, exExt, binV, intOp, subc, AV.solid, S0, encI, encB, e1, e3, e46, ei, g0, hlt, hlf, encIs]
        exact h2 (fun h => by have := h i hlt; rw [okRow, gb, hA] at this; cases this) _ _ (by simp [put_some, encB])
      | true =>
        simp [AW_seq, AW_reg, AW_regD, AW_block, AW_cond, AW_skip, AW_exit, AW_ret, AW_scp, condR_true, condR_false, AThen_normal, AThen_ret, AThen_exit, ABlock_normal, ABlock_ret, ABlock_exit, AScope_normal, AScope_ret, AScope_exit, RetK_ret, RetK_normal, retAV_one, retAV_two, retAV_three, retAV_nil, RG_nil, RG_op, RG_guard, gdR_tt, gdR_ff, gdR_tf, gdR_ft, gdR_un, RG_call, callQ_clo, contK_ap, opR_some, RD_nil, RD_op0, RD_op1, opD0_some, opD1_some, RD_call, callQD_clo, RD_guard, gdD_tt, gdD_ff, gdD_tf, gdD_ft, gdD_un, psh_nil, psh_cons, Apt_nil, Apt_nilT, Apt_true, Apt_false, Dis_def, runT_val, runT_rd, runT_wr, runT_new, runT_mv, ex, put_some, put_none, ev_t, ev_c, argF_zero, argF_succ, set_g, set_n, cells_v, cells_sl, cells_agg, cells_own, cells_ptr, cells_clo, cells_eptr, cells_mp, putc, exBslice, lfill, exField, exIdxV, exIdxP, exBox, exAlloc, exLoad, exStore, exFieldA, exIdxA, exLen, exPick, exUn, exBeq, exMM, exSeq, seqGo, exExt, binV, intOp, subc, AV.solid, S0, encI, encB, e1, e3, e46, ei, g0, hlt, hlf, encIs]
        refine ⟨_, ⟨_, d2 _ _⟩, ?_⟩
        cases hB : risesB n.follow[i] 1 n.by_.length with
        | false =>
          simp [AW_seq, AW_reg, AW_regD, AW_block, AW_cond, AW_skip, AW_exit, AW_ret, AW_scp, condR_true, condR_false, AThen_normal, AThen_ret, AThen_exit, ABlock_normal, ABlock_ret, ABlock_exit, AScope_normal, AScope_ret, AScope_exit, RetK_ret, RetK_normal, retAV_one, retAV_two, retAV_three, retAV_nil, RG_nil, RG_op, RG_guard, gdR_tt, gdR_ff, gdR_tf, gdR_ft, gdR_un, RG_call, callQ_clo, contK_ap, opR_some, RD_nil, RD_op0, RD_op1, opD0_some, opD1_some, RD_call, callQD_clo, RD_guard, gdD_tt, gdD_ff, gdD_tf, gdD_ft, gdD_un, psh_nil, psh_cons, Apt_nil, Apt_nilT, Apt_true, Apt_false, Dis_def, runT_val, runT_rd, runT_wr, runT_new, runT_mv, ex, put_some, put_none, ev_t, ev_c, argF_zero, argF_succ, set_g, set_n, cells_v, cells_sl, cells_agg, cells_own, cells_ptr, cells_clo, cells_eptr, cells_mp, putc, exBslice, lfill, exField, exIdxV, exIdxP, exBox, exAlloc, exLoad, exStore, exFieldA, exIdxA, exLen, exPick, exUn, exBeq, exMM, exSeq, seqGo, exExt, binV, intOp, subc, AV.solid, S0, encI, encB, e1, e3, e46, ei, g0, hlt, hlf, encIs]
          exact h2 (fun h => by have := h i hlt; rw [okRow, gb, gf, hA, hB] at this; cases this) _ _ (by simp [put_some, encB])
        | true =>
          simp [AW_seq, AW_reg, AW_regD, AW_block, AW_cond, AW_skip, AW_exit, AW_ret, AW_scp, condR_true, condR_false, AThen_normal, AThen_ret, AThen_exit, ABlock_normal, ABlock_ret, ABlock_exit, AScope_normal, AScope_ret, AScope_exit, RetK_ret, RetK_normal, retAV_one, retAV_two, retAV_three, retAV_nil, RG_nil, RG_op, RG_guard, gdR_tt, gdR_ff, gdR_tf, gdR_ft, gdR_un, RG_call, callQ_clo, contK_ap, opR_some, RD_nil, RD_op0, RD_op1, opD0_some, opD1_some, RD_call, callQD_clo, RD_guard, gdD_tt, gdD_ff, gdD_tf, gdD_ft, gdD_un, psh_nil, psh_cons, Apt_nil, Apt_nilT, Apt_true, Apt_false, Dis_def, runT_val, runT_rd, runT_wr, runT_new, runT_mv, ex, put_some, put_none, ev_t, ev_c, argF_zero, argF_succ, set_g, set_n, cells_v, cells_sl, cells_agg, cells_own, cells_ptr, cells_clo, cells_eptr, cells_mp, putc, exBslice, lfill, exField, exIdxV, exIdxP, exBox, exAlloc, exLoad, exStore, exFieldA, exIdxA, exLen, exPick, exUn, exBeq, exMM, exSeq, seqGo, exExt, binV, intOp, subc, AV.solid, S0, encI, encB, e1, e3, e46, ei, g0, hlt, hlf, encIs]
          rw [wrap_in _ (by omega)]
          refine ⟨hlt, ?_, ?_, ?_, ?_, ?_, fun j hj => ?_⟩
          · simp [put_some, e1]
          · simp [put_some, e3, encI]
          · simp [put_some, e46, encI]
          · simp [put_some, encI]
          · simp [g0, encNet, encIss, encIs, encI]
          · by_cases e : j = i
            · subst e; rw [okRow, gb, gf, hA, hB]; rfl
            · exact hq j (by omega)
    · simp [AW_seq, AW_reg, AW_regD, AW_block, AW_cond, AW_skip, AW_exit, AW_ret, AW_scp, condR_true, condR_false, AThen_normal, AThen_ret, AThen_exit, ABlock_normal, ABlock_ret, ABlock_exit, AScope_normal, AScope_ret, AScope_exit, RetK_ret, RetK_normal, retAV_one, retAV_two, retAV_three, retAV_nil, RG_nil, RG_op, RG_guard, gdR_tt, gdR_ff, gdR_tf, gdR_ft, gdR_un, RG_call, callQ_clo, contK_ap, opR_some, RD_nil, RD_op0, RD_op1, opD0_some, opD1_some, RD_call, callQD_clo, RD_guard, gdD_tt, gdD_ff, gdD_tf, gdD_ft, gdD_un, psh_nil, psh_cons, Apt_nil, Apt_nilT, Apt_true, Apt_false, Dis_def, runT_val, runT_rd, runT_wr, runT_new, runT_mv, ex, put_some, put_none, ev_t, ev_c, argF_zero, argF_succ, set_g, set_n, cells_v, cells_sl, cells_agg, cells_own, cells_ptr, cells_clo, cells_eptr, cells_mp, putc, exBslice, lfill, exField, exIdxV, exIdxP, exBox, exAlloc, exLoad, exStore, exFieldA, exIdxA, exLen, exPick, exUn, exBeq, exMM, exSeq, seqGo, exExt, binV, intOp, subc, AV.solid, S0, encI, encB, e1, e3, e46, ei, g0, hlt]
      exact h1 (fun j hj => hq j (by omega)) _ _
theorem net_Right_body {P : Program} {fl : FuncId} (n : Net) (ok : NetOk n) (hl : HLie P fl n) : AW P (c_net_Right fl) (RetK [2] (FzK (encB (rightN n)))) (argF [encNet n]) S0 := by
  have l1 := ok.by_
  have l2 := ok.follow
  unfold Len at l1 l2
  by_cases h1 : n.signs < 1
  · have e := rightN_no (n := n) (x := 1 ≤ n.signs) (by omega) (fun h => h.s1)
    simp [AW_seq, AW_reg, AW_regD, AW_block, AW_cond, AW_skip, AW_exit, AW_ret, AW_scp, condR_true, condR_false, AThen_normal, AThen_ret, AThen_exit, ABlock_normal, ABlock_ret, ABlock_exit, AScope_normal, AScope_ret, AScope_exit, RetK_ret, RetK_normal, retAV_one, retAV_two, retAV_three, retAV_nil, RG_nil, RG_op, RG_guard, gdR_tt, gdR_ff, gdR_tf, gdR_ft, gdR_un, RG_call, callQ_clo, contK_ap, opR_some, RD_nil, RD_op0, RD_op1, opD0_some, opD1_some, RD_call, callQD_clo, RD_guard, gdD_tt, gdD_ff, gdD_tf, gdD_ft, gdD_un, psh_nil, psh_cons, Apt_nil, Apt_nilT, Apt_true, Apt_false, Dis_def, runT_val, runT_rd, runT_wr, runT_new, runT_mv, ex, put_some, put_none, ev_t, ev_c, argF_zero, argF_succ, set_g, set_n, cells_v, cells_sl, cells_agg, cells_own, cells_ptr, cells_clo, cells_eptr, cells_mp, putc, exBslice, lfill, exField, exIdxV, exIdxP, exBox, exAlloc, exLoad, exStore, exFieldA, exIdxA, exLen, exPick, exUn, exBeq, exMM, exSeq, seqGo, exExt, binV, intOp, subc, AV.solid, S0, encI, encB, c_net_Right, encNet, encIss, encIs, h1, e]
    exact FzK_B _ _
  by_cases h2 : 400 < n.signs
  · have e := rightN_no (n := n) (x := n.signs ≤ 400) (by omega) (fun h => h.s2)
    simp [AW_seq, AW_reg, AW_regD, AW_block, AW_cond, AW_skip, AW_exit, AW_ret, AW_scp, condR_true, condR_false, AThen_normal, AThen_ret, AThen_exit, ABlock_normal, ABlock_ret, ABlock_exit, AScope_normal, AScope_ret, AScope_exit, RetK_ret, RetK_normal, retAV_one, retAV_two, retAV_three, retAV_nil, RG_nil, RG_op, RG_guard, gdR_tt, gdR_ff, gdR_tf, gdR_ft, gdR_un, RG_call, callQ_clo, contK_ap, opR_some, RD_nil, RD_op0, RD_op1, opD0_some, opD1_some, RD_call, callQD_clo, RD_guard, gdD_tt, gdD_ff, gdD_tf, gdD_ft, gdD_un, psh_nil, psh_cons, Apt_nil, Apt_nilT, Apt_true, Apt_false, Dis_def, runT_val, runT_rd, runT_wr, runT_new, runT_mv, ex, put_some, put_none, ev_t, ev_c, argF_zero, argF_succ, set_g, set_n, cells_v, cells_sl, cells_agg, cells_own, cells_ptr, cells_clo, cells_eptr, cells_mp, putc, exBslice, lfill, exField, exIdxV, exIdxP, exBox, exAlloc, exLoad, exStore, exFieldA, exIdxA, exLen, exPick, exUn, exBeq, exMM, exSeq, seqGo, exExt, binV, intOp, subc, AV.solid, S0, encI, encB, c_net_Right, encNet, encIss, encIs, h1, h2, e]
    exact FzK_B _ _
  by_cases h3 : n.by_.length = 0
  · have e := rightN_no (n := n) (x := 1 ≤ n.by_.length) (by omega) (fun h => h.n1)
    have h3' : ((n.by_.length : Int) == 0) = true := by simp; exact List.eq_nil_of_length_eq_zero h3
    have h3'' : (n.by_.length : Int) < 1 := by omega
    simp [AW_seq, AW_reg, AW_regD, AW_block, AW_cond, AW_skip, AW_exit, AW_ret, AW_scp, condR_true, condR_false, AThen_normal, AThen_ret, AThen_exit, ABlock_normal, ABlock_ret, ABlock_exit, AScope_normal, AScope_ret, AScope_exit, RetK_ret, RetK_normal, retAV_one, retAV_two, retAV_three, retAV_nil, RG_nil, RG_op, RG_guard, gdR_tt, gdR_ff, gdR_tf, gdR_ft, gdR_un, RG_call, callQ_clo, contK_ap, opR_some, RD_nil, RD_op0, RD_op1, opD0_some, opD1_some, RD_call, callQD_clo, RD_guard, gdD_tt, gdD_ff, gdD_tf, gdD_ft, gdD_un, psh_nil, psh_cons, Apt_nil, Apt_nilT, Apt_true, Apt_false, Dis_def, runT_val, runT_rd, runT_wr, runT_new, runT_mv, ex, put_some, put_none, ev_t, ev_c, argF_zero, argF_succ, set_g, set_n, cells_v, cells_sl, cells_agg, cells_own, cells_ptr, cells_clo, cells_eptr, cells_mp, putc, exBslice, lfill, exField, exIdxV, exIdxP, exBox, exAlloc, exLoad, exStore, exFieldA, exIdxA, exLen, exPick, exUn, exBeq, exMM, exSeq, seqGo, exExt, binV, intOp, subc, AV.solid, S0, encI, encB, c_net_Right, encNet, encIss, h1, h2, h3', h3'', e]
    exact FzK_B _ _
  have h3' : ((n.by_.length : Int) == 0) = false := by simp; exact fun e => h3 (by simp [e])
  have h3'' : ¬ (n.by_.length : Int) < 1 := by omega
  by_cases h4 : (301 : Int) < n.by_.length
  · have e := rightN_no (n := n) (x := n.by_.length ≤ 301) (by omega) (fun h => h.n2)
    simp [AW_seq, AW_reg, AW_regD, AW_block, AW_cond, AW_skip, AW_exit, AW_ret, AW_scp, condR_true, condR_false, AThen_normal, AThen_ret, AThen_exit, ABlock_normal, ABlock_ret, ABlock_exit, AScope_normal, AScope_ret, AScope_exit, RetK_ret, RetK_normal, retAV_one, retAV_two, retAV_three, retAV_nil, RG_nil, RG_op, RG_guard, gdR_tt, gdR_ff, gdR_tf, gdR_ft, gdR_un, RG_call, callQ_clo, contK_ap, opR_some, RD_nil, RD_op0, RD_op1, opD0_some, opD1_some, RD_call, callQD_clo, RD_guard, gdD_tt, gdD_ff, gdD_tf, gdD_ft, gdD_un, psh_nil, psh_cons, Apt_nil, Apt_nilT, Apt_true, Apt_false, Dis_def, runT_val, runT_rd, runT_wr, runT_new, runT_mv, ex, put_some, put_none, ev_t, ev_c, argF_zero, argF_succ, set_g, set_n, cells_v, cells_sl, cells_agg, cells_own, cells_ptr, cells_clo, cells_eptr, cells_mp, putc, exBslice, lfill, exField, exIdxV, exIdxP, exBox, exAlloc, exLoad, exStore, exFieldA, exIdxA, exLen, exPick, exUn, exBeq, exMM, exSeq, seqGo, exExt, binV, intOp, subc, AV.solid, S0, encI, encB, c_net_Right, encNet, encIss, h1, h2, h3', h3'', h4, e]
    exact FzK_B _ _
  by_cases h5 : ¬ (n.follow.length = n.by_.length)
  · have e := rightN_no (n := n) h5 (fun h => h.len)
    have h5' : ((n.follow.length : Int) != n.by_.length) = true := by simp; omega
    simp [AW_seq, AW_reg, AW_regD, AW_block, AW_cond, AW_skip, AW_exit, AW_ret, AW_scp, condR_true, condR_false, AThen_normal, AThen_ret, AThen_exit, ABlock_normal, ABlock_ret, ABlock_exit, AScope_normal, AScope_ret, AScope_exit, RetK_ret, RetK_normal, retAV_one, retAV_two, retAV_three, retAV_nil, RG_nil, RG_op, RG_guard, gdR_tt, gdR_ff, gdR_tf, gdR_ft, gdR_un, RG_call, callQ_clo, contK_ap, opR_some, RD_nil, RD_op0, RD_op1, opD0_some, opD1_some, RD_call, callQD_clo, RD_guard, gdD_tt, gdD_ff, gdD_tf, gdD_ft, gdD_un, psh_nil, psh_cons, Apt_nil, Apt_nilT, Apt_true, Apt_false, Dis_def, runT_val, runT_rd, runT_wr, runT_new, runT_mv, ex, put_some, put_none, ev_t, ev_c, argF_zero, argF_succ, set_g, set_n, cells_v, cells_sl, cells_agg, cells_own, cells_ptr, cells_clo, cells_eptr, cells_mp, putc, exBslice, lfill, exField, exIdxV, exIdxP, exBox, exAlloc, exLoad, exStore, exFieldA, exIdxA, exLen, exPick, exUn, exBeq, exMM, exSeq, seqGo, exExt, binV, intOp, subc, AV.solid, S0, encI, encB, c_net_Right, encNet, encIss, h1, h2, h3', h3'', h4, h5', e]
    exact FzK_B _ _
  have h5 : n.follow.length = n.by_.length := Decidable.not_not.mp h5
  have h5' : ((n.follow.length : Int) != n.by_.length) = false := by simp; omega
  have hlt : 0 < n.by_.length := by omega
  have hg0 : n.by_[0]? = some n.by_[0] := List.getElem?_eq_getElem hlt
  have gb : n.by_.getD 0 [] = n.by_[0] := by rw [List.getD_eq_getElem?_getD, hg0]; rfl
  by_cases h6 : (0 : Int) < (n.by_[0]).length
  · have e := rightN_no (n := n) (x := n.by_.getD 0 [] = []) (by rw [gb]; intro h; rw [h] at h6; simp at h6) (fun h => h.by0)
    have h6' : 0 < (n.by_[0]).length := by omega
    simp [AW_seq, AW_reg, AW_regD, AW_block, AW_cond, AW_skip, AW_exit, AW_ret, AW_scp, condR_true, condR_false, AThen_normal, AThen_ret, AThen_exit, ABlock_normal, ABlock_ret, ABlock_exit, AScope_normal, AScope_ret, AScope_exit, RetK_ret, RetK_normal, retAV_one, retAV_two, retAV_three, retAV_nil, RG_nil, RG_op, RG_guard, gdR_tt, gdR_ff, gdR_tf, gdR_ft, gdR_un, RG_call, callQ_clo, contK_ap, opR_some, RD_nil, RD_op0, RD_op1, opD0_some, opD1_some, RD_call, callQD_clo, RD_guard, gdD_tt, gdD_ff, gdD_tf, gdD_ft, gdD_un, psh_nil, psh_cons, Apt_nil, Apt_nilT, Apt_true, Apt_false, Dis_def, runT_val, runT_rd, runT_wr, runT_new, runT_mv, ex, put_some, put_none, ev_t, ev_c, argF_zero, argF_succ, set_g, set_n, cells_v, cells_sl, cells_agg, cells_own, cells_ptr, cells_clo, cells_eptr, cells_mp, putc, exBslice, lfill, exField, exIdxV, exIdxP, exBox, exAlloc, exLoad, exStore, exFieldA, exIdxA, exLen, exPick, exUn, exBeq, exMM, exSeq, seqGo, exExt, binV, intOp, subc, AV.solid, S0, encI, encB, c_net_Right, encNet, encIss, encIs, h1, h2, h3', h3'', h4, h5', hg0, h6, h6', e]
    exact FzK_B _ _
  have h6' : ¬ 0 < (n.by_[0]).length := by omega
  have h60 : n.by_[0] = [] := List.eq_nil_of_length_eq_zero (by omega)
  have k1 := hl n.last (by simp [Net.rows]) 0 n.by_.length
  have c1 := cl_cons (closed_Is n.last) (cl_cons (closed_I 0) (cl_cons (closed_I n.by_.length) cl_nil))
  simp only [encIs, encI] at k1 c1
  simp [AW_seq, AW_reg, AW_regD, AW_block, AW_cond, AW_skip, AW_exit, AW_ret, AW_scp, condR_true, condR_false, AThen_normal, AThen_ret, AThen_exit, ABlock_normal, ABlock_ret, ABlock_exit, AScope_normal, AScope_ret, AScope_exit, RetK_ret, RetK_normal, retAV_one, retAV_two, retAV_three, retAV_nil, RG_nil, RG_op, RG_guard, gdR_tt, gdR_ff, gdR_tf, gdR_ft, gdR_un, RG_call, callQ_clo, contK_ap, opR_some, RD_nil, RD_op0, RD_op1, opD0_some, opD1_some, RD_call, callQD_clo, RD_guard, gdD_tt, gdD_ff, gdD_tf, gdD_ft, gdD_un, psh_nil, psh_cons, Apt_nil, Apt_nilT, Apt_true, Apt_false, Dis_def, runT_val, runT_rd, runT_wr, runT_new, runT_mv, ex, put_some, put_none, ev_t, ev_c, argF_zero, argF_succ, set_g, set_n, cells_v, cells_sl, cells_agg, cells_own, cells_ptr, cells_clo, cells_eptr, cells_mp, putc, exBslice, lfill, exField, exIdxV, exIdxP, exBox, exAlloc, exLoad, exStore, exFieldA, exIdxA, exLen, exPick, exUn, exBeq, exMM, exSeq, seqGo, exExt, binV, intOp, subc, AV.solid, S0, encI, encB, c_net_Right, encNet, encIss, encIs, h1, h2, h3', h3'', h4, h5', hg0, h6, h6', h60]
  refine CallR.pure k1 c1 (closed_B _) ?_
  cases h7 : risesB n.last 0 n.by_.length with
  | false =>
    have e := rightN_no (n := n) (x := risesB n.last 0 n.by_.length = true) (by rw [h7]; simp) (fun h => risesB_iff.mpr h.last)
    simp [AW_seq, AW_reg, AW_regD, AW_block, AW_cond, AW_skip, AW_exit, AW_ret, AW_scp, condR_true, condR_false, AThen_normal, AThen_ret, AThen_exit, ABlock_normal, ABlock_ret, ABlock_exit, AScope_normal, AScope_ret, AScope_exit, RetK_ret, RetK_normal, retAV_one, retAV_two, retAV_three, retAV_nil, RG_nil, RG_op, RG_guard, gdR_tt, gdR_ff, gdR_tf, gdR_ft, gdR_un, RG_call, callQ_clo, contK_ap, opR_some, RD_nil, RD_op0, RD_op1, opD0_some, opD1_some, RD_call, callQD_clo, RD_guard, gdD_tt, gdD_ff, gdD_tf, gdD_ft, gdD_un, psh_nil, psh_cons, Apt_nil, Apt_nilT, Apt_true, Apt_false, Dis_def, runT_val, runT_rd, runT_wr, runT_new, runT_mv, ex, put_some, put_none, ev_t, ev_c, argF_zero, argF_succ, set_g, set_n, cells_v, cells_sl, cells_agg, cells_own, cells_ptr, cells_clo, cells_eptr, cells_mp, putc, exBslice, lfill, exField, exIdxV, exIdxP, exBox, exAlloc, exLoad, exStore, exFieldA, exIdxA, exLen, exPick, exUn, exBeq, exMM, exSeq, seqGo, exExt, binV, intOp, subc, AV.solid, S0, encI, encB, c_net_Right, encNet, encIss, encIs, h1, h2, h3', h3'', h4, h5', hg0, h6, h6', e]
    exact FzK_B _ _
  | true =>
    simp [AW_seq, AW_reg, AW_regD, AW_block, AW_cond, AW_skip, AW_exit, AW_ret, AW_scp, condR_true, condR_false, AThen_normal, AThen_ret, AThen_exit, ABlock_normal, ABlock_ret, ABlock_exit, AScope_normal, AScope_ret, AScope_exit, RetK_ret, RetK_normal, retAV_one, retAV_two, retAV_three, retAV_nil, RG_nil, RG_op, RG_guard, gdR_tt, gdR_ff, gdR_tf, gdR_ft, gdR_un, RG_call, callQ_clo, contK_ap, opR_some, RD_nil, RD_op0, RD_op1, opD0_some, opD1_some, RD_call, callQD_clo, RD_guard, gdD_tt, gdD_ff, gdD_tf, gdD_ft, gdD_un, psh_nil, psh_cons, Apt_nil, Apt_nilT, Apt_true, Apt_false, Dis_def, runT_val, runT_rd, runT_wr, runT_new, runT_mv, ex, put_some, put_none, ev_t, ev_c, argF_zero, argF_succ, set_g, set_n, cells_v, cells_sl, cells_agg, cells_own, cells_ptr, cells_clo, cells_eptr, cells_mp, putc, exBslice, lfill, exField, exIdxV, exIdxP, exBox, exAlloc, exLoad, exStore, exFieldA, exIdxA, exLen, exPick, exUn, exBeq, exMM, exSeq, seqGo, exExt, binV, intOp, subc, AV.solid, S0, encI, encB]
    refine nr_loop (n := n) hl h5 (by omega) (by simp [put_some]) (by simp [put_some, encI]) (by simp [put_some, encI]) (by simp [put_some, encI]) (by simp [set_g, encNet, encIss, encIs, encI]) (fun h f' S' => ?_) (fun h f' S' e2 => ?_)
    · have e : rightN n = true := by
        simp only [rightN, Bool.and_eq_true, decide_eq_true_eq, List.all_eq_true, List.mem_range]
        refine ⟨⟨⟨⟨⟨⟨⟨by omega, by omega⟩, by omega⟩, by omega⟩, h5⟩, by rw [gb, h60]; rfl⟩, h7⟩, fun i hi => ?_⟩
        have := h i hi
        simpa [okRow] using this
      simp [AW_seq, AW_reg, AW_regD, AW_block, AW_cond, AW_skip, AW_exit, AW_ret, AW_scp, condR_true, condR_false, AThen_normal, AThen_ret, AThen_exit, ABlock_normal, ABlock_ret, ABlock_exit, AScope_normal, AScope_ret, AScope_exit, RetK_ret, RetK_normal, retAV_one, retAV_two, retAV_three, retAV_nil, RG_nil, RG_op, RG_guard, gdR_tt, gdR_ff, gdR_tf, gdR_ft, gdR_un, RG_call, callQ_clo, contK_ap, opR_some, RD_nil, RD_op0, RD_op1, opD0_some, opD1_some, RD_call, callQD_clo, RD_guard, gdD_tt, gdD_ff, gdD_tf, gdD_ft, gdD_un, psh_nil, psh_cons, Apt_nil, Apt_nilT, Apt_true, Apt_false, Dis_def, runT_val, runT_rd, runT_wr, runT_new, runT_mv, ex, put_some, put_none, ev_t, ev_c, argF_zero, argF_succ, set_g, set_n, cells_v, cells_sl, cells_agg, cells_own, cells_ptr, cells_clo, cells_eptr, cells_mp, putc, exBslice, lfill, exField, exIdxV, exIdxP, exBox, exAlloc, exLoad, exStore, exFieldA, exIdxA, exLen, exPick, exUn, exBeq, exMM, exSeq, seqGo, exExt, binV, intOp, subc, AV.solid, S0, encI, encB, e]
      exact FzK_B _ _
    · have e := rightN_no (n := n) h (fun R i hi => by
        have hi2 : i < n.follow.length := by omega
        rw [okRow, List.getD_eq_getElem?_getD, List.getElem?_eq_getElem hi, List.getD_eq_getElem?_getD, List.getElem?_eq_getElem hi2]
        simp only [Option.getD_some, Bool.and_eq_true]
        exact ⟨risesB_iff.mpr (R.by_ i hi), risesB_iff.mpr (R.follow i hi2)⟩)
      simp [AW_seq, AW_reg, AW_regD, AW_block, AW_cond, AW_skip, AW_exit, AW_ret, AW_scp, condR_true, condR_false, AThen_normal, AThen_ret, AThen_exit, ABlock_normal, ABlock_ret, ABlock_exit, AScope_normal, AScope_ret, AScope_exit, RetK_ret, RetK_normal, retAV_one, retAV_two, retAV_three, retAV_nil, RG_nil, RG_op, RG_guard, gdR_tt, gdR_ff, gdR_tf, gdR_ft, gdR_un, RG_call, callQ_clo, contK_ap, opR_some, RD_nil, RD_op0, RD_op1, opD0_some, opD1_some, RD_call, callQD_clo, RD_guard, gdD_tt, gdD_ff, gdD_tf, gdD_ft, gdD_un, psh_nil, psh_cons, Apt_nil, Apt_nilT, Apt_true, Apt_false, Dis_def, runT_val, runT_rd, runT_wr, runT_new, runT_mv, ex, put_some, put_none, ev_t, ev_c, argF_zero, argF_succ, set_g, set_n, cells_v, cells_sl, cells_agg, cells_own, cells_ptr, cells_clo, cells_eptr, cells_mp, putc, exBslice, lfill, exField, exIdxV, exIdxP, exBox, exAlloc, exLoad, exStore, exFieldA, exIdxA, exLen, exPick, exUn, exBeq, exMM, exSeq, seqGo, exExt, binV, intOp, subc, AV.solid, S0, encI, encB, e2, e]
      exact FzK_B _ _
end Go.Rf

