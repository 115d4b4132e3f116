import Derived.Test.YtgmbloldekkieaaRfUse
set_option linter.unusedVariables false
set_option linter.unusedSimpArgs false
namespace Go.Rf
def c_caesuraref15_Accepts (f_caesuraref15_Run : FuncId) : AC :=
  (.seq (.reg none [
   ⟨(some 2), .box 3 (.t 0), none, none⟩,
   ⟨(some 4), .mv (.c (.v (.bool false))), none, none⟩])
  (.seq (.reg none [
   ⟨(some 6), .load (some 3) (.t 2), none, none⟩,
   ⟨(some 7), .mv (.t 1), none, none⟩,
   ⟨(some 8), .mv (.c .junk), none, (some ((.c (.clo f_caesuraref15_Run [] [])), [(.t 6), (.t 7)]))⟩,
   ⟨(some 5), .mv (.t 8), none, none⟩])
  (.seq (.reg none [
   ⟨(some 9), .mv (.t 5), none, none⟩,
   ⟨(some 10), .bin .geq (.t 9) (.c (.v (.int .i64 0))), none, none⟩,
   ⟨(some 11), .mv (.t 10), none, none⟩,
   ⟨(some 12), .fieldA 2 (.t 2), (some (11, true)), none⟩,
   ⟨(some 13), .load none (.t 12), (some (11, true)), none⟩,
   ⟨(some 14), .mv (.t 5), (some (11, true)), none⟩,
   ⟨(some 15), .idxA 1 (.t 13) (.t 14), (some (11, true)), none⟩,
   ⟨(some 16), .load none (.t 15), (some (11, true)), none⟩,
   ⟨(some 17), .pick (.t 11) (.t 16) (.c (.v (.bool false))), none, none⟩,
   ⟨(some 4), .mv (.t 17), none, none⟩])
  .ret)))

def c_caesuraref15_Run (f_caesuraref15_Right : FuncId) : AC :=
  (.seq (.reg none [
   ⟨(some 2), .box 3 (.t 0), none, none⟩,
   ⟨(some 4), .mv (.c (.v (.int .i64 0))), none, none⟩])
  (.seq (.seq (.reg none [
   ⟨(some 7), .load (some 3) (.t 2), none, none⟩,
   ⟨(some 8), .mv (.c .junk), none, (some ((.c (.clo f_caesuraref15_Right [] [])), [(.t 7)]))⟩,
   ⟨(some 9), .un .not (.t 8), none, none⟩])
  (.cond (.t 9) (.seq (.reg none [
    ⟨(some 4), .mv (.c (.v (.int .i64 (-1)))), none, none⟩])
   .ret) .skip))
  (.seq (.reg none [
   ⟨(some 5), .mv (.c (.v (.int .i64 0))), none, none⟩])
  (.seq (.seq (.reg none [
   ⟨(some 6), .mv (.c (.v (.int .i64 0))), none, none⟩])
  (.block 0 (.loop (.seq (.seq (.reg none [
     ⟨(some 10), .mv (.t 6), none, none⟩,
     ⟨(some 11), .mv (.t 1), none, none⟩,
     ⟨(some 12), .len (.t 11), none, none⟩,
     ⟨(some 13), .bin .lss (.t 10) (.t 12), none, none⟩])
    (.cond (.t 13) .skip (.exit 0)))
    (.seq (.block 1 (.seq (.seq (.reg (some []) [
      ⟨(some 16), .mv (.t 1), none, none⟩,
      ⟨(some 17), .mv (.t 6), none, none⟩,
      ⟨(some 18), .idxA 1 (.t 16) (.t 17), none, none⟩,
      ⟨(some 19), .load none (.t 18), none, none⟩,
      ⟨(some 20), .bin .lss (.t 19) (.c (.v (.int .i64 0))), none, none⟩,
      ⟨(some 21), .mv (.t 20), none, none⟩,
      ⟨(some 22), .mv (.t 1), (some (21, false)), none⟩,
      ⟨(some 23), .mv (.t 6), (some (21, false)), none⟩,
      ⟨(some 24), .idxA 1 (.t 22) (.t 23), (some (21, false)), none⟩,
      ⟨(some 25), .load none (.t 24), (some (21, false)), none⟩,
      ⟨(some 26), .fieldA 0 (.t 2), (some (21, false)), none⟩,
      ⟨(some 27), .load none (.t 26), (some (21, false)), none⟩,
      ⟨(some 28), .bin .geq (.t 25) (.t 27), (some (21, false)), none⟩,
      ⟨(some 29), .pick (.t 21) (.c (.v (.bool true))) (.t 28), none, none⟩])
     (.cond (.t 29) (.seq (.reg none [
       ⟨(some 4), .mv (.c (.v (.int .i64 (-1)))), none, none⟩])
      .ret) .skip))
     (.reg (some []) [
      ⟨(some 30), .fieldA 1 (.t 2), none, none⟩,
      ⟨(some 31), .load none (.t 30), none, none⟩,
      ⟨(some 32), .mv (.t 5), none, none⟩,
      ⟨(some 33), .idxA 1 (.t 31) (.t 32), none, none⟩,
      ⟨(some 34), .load none (.t 33), none, none⟩,
      ⟨(some 35), .mv (.t 1), none, none⟩,
      ⟨(some 36), .mv (.t 6), none, none⟩,
      ⟨(some 37), .idxA 1 (.t 35) (.t 36), none, none⟩,
      ⟨(some 38), .load none (.t 37), none, none⟩,
      ⟨(some 39), .idxA 1 (.t 34) (.t 38), none, none⟩,
      ⟨(some 40), .load none (.t 39), none, none⟩,
      ⟨(some 5), .mv (.t 40), none, none⟩])))
    (.reg none [
     ⟨(some 14), .mv (.t 6), none, none⟩,
     ⟨(some 15), .bin .add (.t 14) (.c (.v (.int .i64 1))), none, none⟩,
     ⟨(some 6), .mv (.t 15), none, none⟩]))))))
  (.seq (.reg none [
   ⟨(some 41), .mv (.t 5), none, none⟩,
   ⟨(some 4), .mv (.t 41), none, none⟩])
  .ret)))))

def c_det_Run (f_det_Right : FuncId) : AC :=
  (.seq (.reg none [
   ⟨(some 2), .box 3 (.t 0), none, none⟩,
   ⟨(some 4), .mv (.c (.v (.int .i64 0))), none, none⟩])
  (.seq (.seq (.reg none [
   ⟨(some 8), .load (some 3) (.t 2), none, none⟩,
   ⟨(some 9), .mv (.c .junk), none, (some ((.c (.clo f_det_Right [] [])), [(.t 8)]))⟩,
   ⟨(some 10), .un .not (.t 9), none, none⟩])
  (.cond (.t 10) (.seq (.reg none [
    ⟨(some 4), .mv (.c (.v (.int .i64 (-1)))), none, none⟩])
   .ret) .skip))
  (.seq (.reg none [
   ⟨(some 5), .mv (.c (.v (.int .i64 0))), none, none⟩])
  (.seq (.seq (.reg none [
   ⟨(some 11), .mv (.t 1), none, none⟩,
   ⟨(some 12), .len (.t 11), none, none⟩,
   ⟨(some 13), .mv (.c (.v (.int .i64 0))), none, none⟩])
  (.block 0 (.loop (.seq (.reg none [
     ⟨(some 14), .bin .lss (.t 13) (.t 12), none, none⟩])
    (.seq (.cond (.t 14) .skip (.exit 0))
    (.seq (.block 1 (.seq (.reg none [
      ⟨(some 15), .idxA 1 (.t 11) (.t 13), none, none⟩,
      ⟨(some 16), .load none (.t 15), none, none⟩,
      ⟨(some 7), .mv (.t 16), none, none⟩])
     (.seq (.seq (.reg none [
      ⟨(some 17), .mv (.t 7), none, none⟩,
      ⟨(some 18), .bin .lss (.t 17) (.c (.v (.int .i64 0))), none, none⟩,
      ⟨(some 19), .mv (.t 18), none, none⟩,
      ⟨(some 20), .mv (.t 7), (some (19, false)), none⟩,
      ⟨(some 21), .fieldA 0 (.t 2), (some (19, false)), none⟩,
      ⟨(some 22), .load none (.t 21), (some (19, false)), none⟩,
      ⟨(some 23), .bin .geq (.t 20) (.t 22), (some (19, false)), none⟩,
      ⟨(some 24), .pick (.t 19) (.c (.v (.bool true))) (.t 23), none, none⟩])
     (.cond (.t 24) (.seq (.reg none [
       ⟨(some 4), .mv (.c (.v (.int .i64 (-1)))), none, none⟩])
      .ret) .skip))
     (.reg none [
      ⟨(some 25), .fieldA 1 (.t 2), none, none⟩,
      ⟨(some 26), .load none (.t 25), none, none⟩,
      ⟨(some 27), .mv (.t 5), none, none⟩,
      ⟨(some 28), .idxA 1 (.t 26) (.t 27), none, none⟩,
      ⟨(some 29), .load none (.t 28), none, none⟩,
      ⟨(some 30), .mv (.t 7), none, none⟩,
      ⟨(some 31), .idxA 1 (.t 29) (.t 30), none, none⟩,
      ⟨(some 32), .load none (.t 31), none, none⟩,
      ⟨(some 5), .mv (.t 32), none, none⟩]))))
    (.reg none [
     ⟨(some 33), .bin .add (.t 13) (.c (.v (.int .i64 1))), none, none⟩,
     ⟨(some 13), .mv (.t 33), none, none⟩])))))))
  (.seq (.reg none [
   ⟨(some 34), .mv (.t 5), none, none⟩,
   ⟨(some 4), .mv (.t 34), none, none⟩])
  .ret)))))

def runI (d : Det) (l : List Int) (m : Nat) (f : AF) (S : St) : Prop :=
  ∃ i a : Nat, i ≤ l.length ∧ m = l.length - i ∧ a < d.next.length ∧ f 6 = encI i ∧ f 5 = encI a ∧ f 1 = encIs l ∧ f 2 = .ptr 0 0 0 ∧ S.g 0 = some (.arr 3 [encDet d]) ∧ runFrom d 0 l = runFrom d a (l.drop i)
theorem caesuraref15_Run_body {P : Program} {fr : FuncId} (d : Det) (l : List Int) (hl : Len l) (hr : PureC P fr [encDet d] (encB (rightD d))) :
    AW P (c_caesuraref15_Run fr) (RetK [4] (FzK (encI (numO (runD d l))))) (argF [encDet d, encIs l]) S0 := by
  unfold Len at hl
  simp [AW_seq, AW_reg, AW_regD, AW_block, AW_cond, AW_skip, AW_exit, AW_ret, AW_scp, condR_true, condR_false, AThen_normal, AThen_ret, AThen_exit, ABlock_normal, ABlock_ret, ABlock_exit, AScope_normal, AScope_ret, AScope_exit, RetK_ret, RetK_normal, retAV_one, retAV_two, retAV_three, retAV_nil, RG_nil, RG_op, RG_guard, gdR_tt, gdR_ff, gdR_tf, gdR_ft, gdR_un, RG_call, callQ_clo, contK_ap, opR_some, RD_nil, RD_op0, RD_op1, opD0_some, opD1_some, RD_call, callQD_clo, RD_guard, gdD_tt, gdD_ff, gdD_tf, gdD_ft, gdD_un, psh_nil, psh_cons, Apt_nil, Apt_nilT, Apt_true, Apt_false, Dis_def, runT_val, runT_rd, runT_wr, runT_new, runT_mv, ex, put_some, put_none, ev_t, ev_c, argF_zero, argF_succ, set_g, set_n, cells_v, cells_sl, cells_agg, cells_own, cells_ptr, cells_clo, cells_eptr, cells_mp, putc, exBslice, lfill, exField, exIdxV, exIdxP, exBox, exAlloc, exLoad, exStore, exFieldA, exIdxA, exLen, exPick, exUn, exBeq, exMM, exSeq, seqGo, exExt, binV, intOp, subc, AV.solid, S0, encI, encB, c_caesuraref15_Run, encDet, encIss, encBs]
  refine CallR.pure hr (cl_cons (closed_Det d) cl_nil) (closed_B _) ?_
  cases hrd : rightD d with
  | false =>
    have hres : numO (runD d l) = -1 := by simp [runD, hrd, numO]
    simp [AW_seq, AW_reg, AW_regD, AW_block, AW_cond, AW_skip, AW_exit, AW_ret, AW_scp, condR_true, condR_false, AThen_normal, AThen_ret, AThen_exit, ABlock_normal, ABlock_ret, ABlock_exit, AScope_normal, AScope_ret, AScope_exit, RetK_ret, RetK_normal, retAV_one, retAV_two, retAV_three, retAV_nil, RG_nil, RG_op, RG_guard, gdR_tt, gdR_ff, gdR_tf, gdR_ft, gdR_un, RG_call, callQ_clo, contK_ap, opR_some, RD_nil, RD_op0, RD_op1, opD0_some, opD1_some, RD_call, callQD_clo, RD_guard, gdD_tt, gdD_ff, gdD_tf, gdD_ft, gdD_un, psh_nil, psh_cons, Apt_nil, Apt_nilT, Apt_true, Apt_false, Dis_def, runT_val, runT_rd, runT_wr, runT_new, runT_mv, ex, put_some, put_none, ev_t, ev_c, argF_zero, argF_succ, set_g, set_n, cells_v, cells_sl, cells_agg, cells_own, cells_ptr, cells_clo, cells_eptr, cells_mp, putc, exBslice, lfill, exField, exIdxV, exIdxP, exBox, exAlloc, exLoad, exStore, exFieldA, exIdxA, exLen, exPick, exUn, exBeq, exMM, exSeq, seqGo, exExt, binV, intOp, subc, AV.solid, S0, encI, encB, hres]
    exact FzK_I _ _
  | true =>
    have R := (right_iff d).mp hrd
    have hn := R.n1
    have hres : runD d l = runFrom d 0 l := by simp [runD, hrd]
    rw [hres]
    simp [AW_seq, AW_reg, AW_regD, AW_block, AW_cond, AW_skip, AW_exit, AW_ret, AW_scp, condR_true, condR_false, AThen_normal, AThen_ret, AThen_exit, ABlock_normal, ABlock_ret, ABlock_exit, AScope_normal, AScope_ret, AScope_exit, RetK_ret, RetK_normal, retAV_one, retAV_two, retAV_three, retAV_nil, RG_nil, RG_op, RG_guard, gdR_tt, gdR_ff, gdR_tf, gdR_ft, gdR_un, RG_call, callQ_clo, contK_ap, opR_some, RD_nil, RD_op0, RD_op1, opD0_some, opD1_some, RD_call, callQD_clo, RD_guard, gdD_tt, gdD_ff, gdD_tf, gdD_ft, gdD_un, psh_nil, psh_cons, Apt_nil, Apt_nilT, Apt_true, Apt_false, Dis_def, runT_val, runT_rd, runT_wr, runT_new, runT_mv, ex, put_some, put_none, ev_t, ev_c, argF_zero, argF_succ, set_g, set_n, cells_v, cells_sl, cells_agg, cells_own, cells_ptr, cells_clo, cells_eptr, cells_mp, putc, exBslice, lfill, exField, exIdxV, exIdxP, exBox, exAlloc, exLoad, exStore, exFieldA, exIdxA, exLen, exPick, exUn, exBeq, exMM, exSeq, seqGo, exExt, binV, intOp, subc, AV.solid, S0, encI, encB]
    refine AW_loop (runI d l) l.length ?_ ?_
    · refine ⟨0, 0, by omega, by omega, by omega, ?_, ?_, ?_, ?_, ?_, by simp⟩ <;> simp [put_some, argF_zero, argF_succ, encI, encIs, encDet, encIss, encBs, set_g]
    · rintro m f S ⟨i, a, hi, rfl, ha, e6, e5, e1, e2, eg, hq⟩
      by_cases hlt : i < l.length
      · rw [List.drop_eq_getElem_cons hlt, runFrom] at hq
        by_cases h0 : l[i] < 0
        · rw [if_neg (by omega)] at hq
          simp [AW_seq, AW_reg, AW_regD, AW_block, AW_cond, AW_skip, AW_exit, AW_ret, AW_scp, condR_true, condR_false, AThen_normal, AThen_ret, AThen_exit, ABlock_normal, ABlock_ret, ABlock_exit, AScope_normal, AScope_ret, AScope_exit, RetK_ret, RetK_normal, retAV_one, retAV_two, retAV_three, retAV_nil, RG_nil, RG_op, RG_guard, gdR_tt, gdR_ff, gdR_tf, gdR_ft, gdR_un, RG_call, callQ_clo, contK_ap, opR_some, RD_nil, RD_op0, RD_op1, opD0_some, opD1_some, RD_call, callQD_clo, RD_guard, gdD_tt, gdD_ff, gdD_tf, gdD_ft, gdD_un, psh_nil, psh_cons, Apt_nil, Apt_nilT, Apt_true, Apt_false, Dis_def, runT_val, runT_rd, runT_wr, runT_new, runT_mv, ex, put_some, put_none, ev_t, ev_c, argF_zero, argF_succ, set_g, set_n, cells_v, cells_sl, cells_agg, cells_own, cells_ptr, cells_clo, cells_eptr, cells_mp, putc, exBslice, lfill, exField, exIdxV, exIdxP, exBox, exAlloc, exLoad, exStore, exFieldA, exIdxA, exLen, exPick, exUn, exBeq, exMM, exSeq, seqGo, exExt, binV, intOp, subc, AV.solid, S0, encI, encB, e6, e5, e1, e2, eg, encIs, encDet, encIss, encBs, hlt, h0, hq, numO]
          exact FzK_I _ _
        by_cases hs : d.signs ≤ l[i]
        · rw [if_neg (by omega)] at hq
          simp [AW_seq, AW_reg, AW_regD, AW_block, AW_cond, AW_skip, AW_exit, AW_ret, AW_scp, condR_true, condR_false, AThen_normal, AThen_ret, AThen_exit, ABlock_normal, ABlock_ret, ABlock_exit, AScope_normal, AScope_ret, AScope_exit, RetK_ret, RetK_normal, retAV_one, retAV_two, retAV_three, retAV_nil, RG_nil, RG_op, RG_guard, gdR_tt, gdR_ff, gdR_tf, gdR_ft, gdR_un, RG_call, callQ_clo, contK_ap, opR_some, RD_nil, RD_op0, RD_op1, opD0_some, opD1_some, RD_call, callQD_clo, RD_guard, gdD_tt, gdD_ff, gdD_tf, gdD_ft, gdD_un, psh_nil, psh_cons, Apt_nil, Apt_nilT, Apt_true, Apt_false, Dis_def, runT_val, runT_rd, runT_wr, runT_new, runT_mv, ex, put_some, put_none, ev_t, ev_c, argF_zero, argF_succ, set_g, set_n, cells_v, cells_sl, cells_agg, cells_own, cells_ptr, cells_clo, cells_eptr, cells_mp, putc, exBslice, lfill, exField, exIdxV, exIdxP, exBox, exAlloc, exLoad, exStore, exFieldA, exIdxA, exLen, exPick, exUn, exBeq, exMM, exSeq, seqGo, exExt, binV, intOp, subc, AV.solid, S0, encI, encB, e6, e5, e1, e2, eg, encIs, encDet, encIss, encBs, hlt, h0, hs, hq, numO]
          exact FzK_I _ _
        rw [if_pos (by omega)] at hq
        obtain ⟨hj, hst, hsl⟩ := step_at R ha (s := l[i]) (by omega) (by omega)
        have h0' : 0 ≤ l[i] := by omega
        simp [AW_seq, AW_reg, AW_regD, AW_block, AW_cond, AW_skip, AW_exit, AW_ret, AW_scp, condR_true, condR_false, AThen_normal, AThen_ret, AThen_exit, ABlock_normal, ABlock_ret, ABlock_exit, AScope_normal, AScope_ret, AScope_exit, RetK_ret, RetK_normal, retAV_one, retAV_two, retAV_three, retAV_nil, RG_nil, RG_op, RG_guard, gdR_tt, gdR_ff, gdR_tf, gdR_ft, gdR_un, RG_call, callQ_clo, contK_ap, opR_some, RD_nil, RD_op0, RD_op1, opD0_some, opD1_some, RD_call, callQD_clo, RD_guard, gdD_tt, gdD_ff, gdD_tf, gdD_ft, gdD_un, psh_nil, psh_cons, Apt_nil, Apt_nilT, Apt_true, Apt_false, Dis_def, runT_val, runT_rd, runT_wr, runT_new, runT_mv, ex, put_some, put_none, ev_t, ev_c, argF_zero, argF_succ, set_g, set_n, cells_v, cells_sl, cells_agg, cells_own, cells_ptr, cells_clo, cells_eptr, cells_mp, putc, exBslice, lfill, exField, exIdxV, exIdxP, exBox, exAlloc, exLoad, exStore, exFieldA, exIdxA, exLen, exPick, exUn, exBeq, exMM, exSeq, seqGo, exExt, binV, intOp, subc, AV.solid, S0, encI, encB, e6, e5, e1, e2, eg, encIs, encDet, encIss, encBs, hlt, h0, hs, ha, hj, hst, h0']
        rw [wrap_in _ (by omega)]
        refine ⟨l.length - (i + 1), by omega, i + 1, stepD d a l[i], by omega, rfl, hsl, ?_, ?_, ?_, ?_, ?_, hq⟩ <;> simp [put_some, e6, e5, e1, e2, eg, encI, encIs, encDet, encIss, encBs]
      · rw [List.drop_of_length_le (by omega), runFrom] at hq
        simp [AW_seq, AW_reg, AW_regD, AW_block, AW_cond, AW_skip, AW_exit, AW_ret, AW_scp, condR_true, condR_false, AThen_normal, AThen_ret, AThen_exit, ABlock_normal, ABlock_ret, ABlock_exit, AScope_normal, AScope_ret, AScope_exit, RetK_ret, RetK_normal, retAV_one, retAV_two, retAV_three, retAV_nil, RG_nil, RG_op, RG_guard, gdR_tt, gdR_ff, gdR_tf, gdR_ft, gdR_un, RG_call, callQ_clo, contK_ap, opR_some, RD_nil, RD_op0, RD_op1, opD0_some, opD1_some, RD_call, callQD_clo, RD_guard, gdD_tt, gdD_ff, gdD_tf, gdD_ft, gdD_un, psh_nil, psh_cons, Apt_nil, Apt_nilT, Apt_true, Apt_false, Dis_def, runT_val, runT_rd, runT_wr, runT_new, runT_mv, ex, put_some, put_none, ev_t, ev_c, argF_zero, argF_succ, set_g, set_n, cells_v, cells_sl, cells_agg, cells_own, cells_ptr, cells_clo, cells_eptr, cells_mp, putc, exBslice, lfill, exField, exIdxV, exIdxP, exBox, exAlloc, exLoad, exStore, exFieldA, exIdxA, exLen, exPick, exUn, exBeq, exMM, exSeq, seqGo, exExt, binV, intOp, subc, AV.solid, S0, encI, encB, e6, e5, e1, e2, eg, encIs, encDet, encIss, encBs, hlt, hq, numO]
        exact FzK_I _ _
def runJ (d : Det) (l : List Int) (m : Nat) (f : AF) (S : St) : Prop :=
  ∃ i a : Nat, i ≤ l.length ∧ m = l.length - i ∧ a < d.next.length ∧ f 13 = encI i ∧ f 12 = encI l.length ∧ f 11 = encIs l ∧ f 5 = encI a ∧ f 2 = .ptr 0 0 0 ∧ S.g 0 = some (.arr 3 [encDet d]) ∧ runFrom d 0 l = runFrom d a (l.drop i)
theorem det_Run_body {P : Program} {fr : FuncId} (d : Det) (l : List Int) (hl : Len l) (hr : PureC P fr [encDet d] (encB (rightD d))) :
    AW P (c_det_Run fr) (RetK [4] (FzK (encI (numO (runD d l))))) (argF [encDet d, encIs l]) S0 := by
  unfold Len at hl
  simp [AW_seq, AW_reg, AW_regD, AW_block, AW_cond, AW_skip, AW_exit, AW_ret, AW_scp, condR_true, condR_false, AThen_normal, AThen_ret, AThen_exit, ABlock_normal, ABlock_ret, ABlock_exit, AScope_normal, AScope_ret, AScope_exit, RetK_ret, RetK_normal, retAV_one, retAV_two, retAV_three, retAV_nil, RG_nil, RG_op, RG_guard, gdR_tt, gdR_ff, gdR_tf, gdR_ft, gdR_un, RG_call, callQ_clo, contK_ap, opR_some, RD_nil, RD_op0, RD_op1, opD0_some, opD1_some, RD_call, callQD_clo, RD_guard, gdD_tt, gdD_ff, gdD_tf, gdD_ft, gdD_un, psh_nil, psh_cons, Apt_nil, Apt_nilT, Apt_true, Apt_false, Dis_def, runT_val, runT_rd, runT_wr, runT_new, runT_mv, ex, put_some, put_none, ev_t, ev_c, argF_zero, argF_succ, set_g, set_n, cells_v, cells_sl, cells_agg, cells_own, cells_ptr, cells_clo, cells_eptr, cells_mp, putc, exBslice, lfill, exField, exIdxV, exIdxP, exBox, exAlloc, exLoad, exStore, exFieldA, exIdxA, exLen, exPick, exUn, exBeq, exMM, exSeq, seqGo, exExt, binV, intOp, subc, AV.solid, S0, encI, encB, c_det_Run, encDet, encIss, encBs]
  refine CallR.pure hr (cl_cons (closed_Det d) cl_nil) (closed_B _) ?_
  cases hrd : rightD d with
  | false =>
    have hres : numO (runD d l) = -1 := by simp [runD, hrd, numO]
    simp [AW_seq, AW_reg, AW_regD, AW_block, AW_cond, AW_skip, AW_exit, AW_ret, AW_scp, condR_true, condR_false, AThen_normal, AThen_ret, AThen_exit, ABlock_normal, ABlock_ret, ABlock_exit, AScope_normal, AScope_ret, AScope_exit, RetK_ret, RetK_normal, retAV_one, retAV_two, retAV_three, retAV_nil, RG_nil, RG_op, RG_guard, gdR_tt, gdR_ff, gdR_tf, gdR_ft, gdR_un, RG_call, callQ_clo, contK_ap, opR_some, RD_nil, RD_op0, RD_op1, opD0_some, opD1_some, RD_call, callQD_clo, RD_guard, gdD_tt, gdD_ff, gdD_tf, gdD_ft, gdD_un, psh_nil, psh_cons, Apt_nil, Apt_nilT, Apt_true, Apt_false, Dis_def, runT_val, runT_rd, runT_wr, runT_new, runT_mv, ex, put_some, put_none, ev_t, ev_c, argF_zero, argF_succ, set_g, set_n, cells_v, cells_sl, cells_agg, cells_own, cells_ptr, cells_clo, cells_eptr, cells_mp, putc, exBslice, lfill, exField, exIdxV, exIdxP, exBox, exAlloc, exLoad, exStore, exFieldA, exIdxA, exLen, exPick, exUn, exBeq, exMM, exSeq, seqGo, exExt, binV, intOp, subc, AV.solid, S0, encI, encB, hres]
    exact FzK_I _ _
  | true =>
    have R := (right_iff d).mp hrd
    have hn := R.n1
    have hres : runD d l = runFrom d 0 l := by simp [runD, hrd]
    rw [hres]
    simp [AW_seq, AW_reg, AW_regD, AW_block, AW_cond, AW_skip, AW_exit, AW_ret, AW_scp, condR_true, condR_false, AThen_normal, AThen_ret, AThen_exit, ABlock_normal, ABlock_ret, ABlock_exit, AScope_normal, AScope_ret, AScope_exit, RetK_ret, RetK_normal, retAV_one, retAV_two, retAV_three, retAV_nil, RG_nil, RG_op, RG_guard, gdR_tt, gdR_ff, gdR_tf, gdR_ft, gdR_un, RG_call, callQ_clo, contK_ap, opR_some, RD_nil, RD_op0, RD_op1, opD0_some, opD1_some, RD_call, callQD_clo, RD_guard, gdD_tt, gdD_ff, gdD_tf, gdD_ft, gdD_un, psh_nil, psh_cons, Apt_nil, Apt_nilT, Apt_true, Apt_false, Dis_def, runT_val, runT_rd, runT_wr, runT_new, runT_mv, ex, put_some, put_none, ev_t, ev_c, argF_zero, argF_succ, set_g, set_n, cells_v, cells_sl, cells_agg, cells_own, cells_ptr, cells_clo, cells_eptr, cells_mp, putc, exBslice, lfill, exField, exIdxV, exIdxP, exBox, exAlloc, exLoad, exStore, exFieldA, exIdxA, exLen, exPick, exUn, exBeq, exMM, exSeq, seqGo, exExt, binV, intOp, subc, AV.solid, S0, encI, encB, encIs]
    refine AW_loop (runJ d l) l.length ?_ ?_
    · refine ⟨0, 0, by omega, by omega, by omega, ?_, ?_, ?_, ?_, ?_, ?_, by simp⟩ <;> simp [put_some, argF_zero, argF_succ, encI, encIs, encDet, encIss, encBs, set_g]
    · rintro m f S ⟨i, a, hi, rfl, ha, e13, e12, e11, e5, e2, eg, hq⟩
      by_cases hlt : i < l.length
      · rw [List.drop_eq_getElem_cons hlt, runFrom] at hq
        by_cases h0 : l[i] < 0
        · rw [if_neg (by omega)] at hq
          simp [AW_seq, AW_reg, AW_regD, AW_block, AW_cond, AW_skip, AW_exit, AW_ret, AW_scp, condR_true, condR_false, AThen_normal, AThen_ret, AThen_exit, ABlock_normal, ABlock_ret, ABlock_exit, AScope_normal, AScope_ret, AScope_exit, RetK_ret, RetK_normal, retAV_one, retAV_two, retAV_three, retAV_nil, RG_nil, RG_op, RG_guard, gdR_tt, gdR_ff, gdR_tf, gdR_ft, gdR_un, RG_call, callQ_clo, contK_ap, opR_some, RD_nil, RD_op0, RD_op1, opD0_some, opD1_some, RD_call, callQD_clo, RD_guard, gdD_tt, gdD_ff, gdD_tf, gdD_ft, gdD_un, psh_nil, psh_cons, Apt_nil, Apt_nilT, Apt_true, Apt_false, Dis_def, runT_val, runT_rd, runT_wr, runT_new, runT_mv, ex, put_some, put_none, ev_t, ev_c, argF_zero, argF_succ, set_g, set_n, cells_v, cells_sl, cells_agg, cells_own, cells_ptr, cells_clo, cells_eptr, cells_mp, putc, exBslice, lfill, exField, exIdxV, exIdxP, exBox, exAlloc, exLoad, exStore, exFieldA, exIdxA, exLen, exPick, exUn, exBeq, exMM, exSeq, seqGo, exExt, binV, intOp, subc, AV.solid, S0, encI, encB, e13, e12, e11, e5, e2, eg, encIs, encDet, encIss, encBs, hlt, h0, hq, numO]
          exact FzK_I _ _
        by_cases hs : d.signs ≤ l[i]
        · rw [if_neg (by omega)] at hq
          simp [AW_seq, AW_reg, AW_regD, AW_block, AW_cond, AW_skip, AW_exit, AW_ret, AW_scp, condR_true, condR_false, AThen_normal, AThen_ret, AThen_exit, ABlock_normal, ABlock_ret, ABlock_exit, AScope_normal, AScope_ret, AScope_exit, RetK_ret, RetK_normal, retAV_one, retAV_two, retAV_three, retAV_nil, RG_nil, RG_op, RG_guard, gdR_tt, gdR_ff, gdR_tf, gdR_ft, gdR_un, RG_call, callQ_clo, contK_ap, opR_some, RD_nil, RD_op0, RD_op1, opD0_some, opD1_some, RD_call, callQD_clo, RD_guard, gdD_tt, gdD_ff, gdD_tf, gdD_ft, gdD_un, psh_nil, psh_cons, Apt_nil, Apt_nilT, Apt_true, Apt_false, Dis_def, runT_val, runT_rd, runT_wr, runT_new, runT_mv, ex, put_some, put_none, ev_t, ev_c, argF_zero, argF_succ, set_g, set_n, cells_v, cells_sl, cells_agg, cells_own, cells_ptr, cells_clo, cells_eptr, cells_mp, putc, exBslice, lfill, exField, exIdxV, exIdxP, exBox, exAlloc, exLoad, exStore, exFieldA, exIdxA, exLen, exPick, exUn, exBeq, exMM, exSeq, seqGo, exExt, binV, intOp, subc, AV.solid, S0, encI, encB, e13, e12, e11, e5, e2, eg, encIs, encDet, encIss, encBs, hlt, h0, hs, hq, numO]
          exact FzK_I _ _
        rw [if_pos (by omega)] at hq
        obtain ⟨hj, hst, hsl⟩ := step_at R ha (s := l[i]) (by omega) (by omega)
        have h0' : 0 ≤ l[i] := by omega
        simp [AW_seq, AW_reg, AW_regD, AW_block, AW_cond, AW_skip, AW_exit, AW_ret, AW_scp, condR_true, condR_false, AThen_normal, AThen_ret, AThen_exit, ABlock_normal, ABlock_ret, ABlock_exit, AScope_normal, AScope_ret, AScope_exit, RetK_ret, RetK_normal, retAV_one, retAV_two, retAV_three, retAV_nil, RG_nil, RG_op, RG_guard, gdR_tt, gdR_ff, gdR_tf, gdR_ft, gdR_un, RG_call, callQ_clo, contK_ap, opR_some, RD_nil, RD_op0, RD_op1, opD0_some, opD1_some, RD_call, callQD_clo, RD_guard, gdD_tt, gdD_ff, gdD_tf, gdD_ft, gdD_un, psh_nil, psh_cons, Apt_nil, Apt_nilT, Apt_true, Apt_false, Dis_def, runT_val, runT_rd, runT_wr, runT_new, runT_mv, ex, put_some, put_none, ev_t, ev_c, argF_zero, argF_succ, set_g, set_n, cells_v, cells_sl, cells_agg, cells_own, cells_ptr, cells_clo, cells_eptr, cells_mp, putc, exBslice, lfill, exField, exIdxV, exIdxP, exBox, exAlloc, exLoad, exStore, exFieldA, exIdxA, exLen, exPick, exUn, exBeq, exMM, exSeq, seqGo, exExt, binV, intOp, subc, AV.solid, S0, encI, encB, e13, e12, e11, e5, e2, eg, encIs, encDet, encIss, encBs, hlt, h0, hs, ha, hj, hst, h0']
        rw [wrap_in _ (by omega)]
        refine ⟨l.length - (i + 1), by omega, i + 1, stepD d a l[i], by omega, rfl, hsl, ?_, ?_, ?_, ?_, ?_, ?_, hq⟩ <;> simp [put_some, e13, e12, e11, e5, e2, eg, encI, encIs, encDet, encIss, encBs]
      · rw [List.drop_of_length_le (by omega), runFrom] at hq
        simp [AW_seq, AW_reg, AW_regD, AW_block, AW_cond, AW_skip, AW_exit, AW_ret, AW_scp, condR_true, condR_false, AThen_normal, AThen_ret, AThen_exit, ABlock_normal, ABlock_ret, ABlock_exit, AScope_normal, AScope_ret, AScope_exit, RetK_ret, RetK_normal, retAV_one, retAV_two, retAV_three, retAV_nil, RG_nil, RG_op, RG_guard, gdR_tt, gdR_ff, gdR_tf, gdR_ft, gdR_un, RG_call, callQ_clo, contK_ap, opR_some, RD_nil, RD_op0, RD_op1, opD0_some, opD1_some, RD_call, callQD_clo, RD_guard, gdD_tt, gdD_ff, gdD_tf, gdD_ft, gdD_un, psh_nil, psh_cons, Apt_nil, Apt_nilT, Apt_true, Apt_false, Dis_def, runT_val, runT_rd, runT_wr, runT_new, runT_mv, ex, put_some, put_none, ev_t, ev_c, argF_zero, argF_succ, set_g, set_n, cells_v, cells_sl, cells_agg, cells_own, cells_ptr, cells_clo, cells_eptr, cells_mp, putc, exBslice, lfill, exField, exIdxV, exIdxP, exBox, exAlloc, exLoad, exStore, exFieldA, exIdxA, exLen, exPick, exUn, exBeq, exMM, exSeq, seqGo, exExt, binV, intOp, subc, AV.solid, S0, encI, encB, e13, e12, e11, e5, e2, eg, encIs, encDet, encIss, encBs, hlt, hq, numO]
        exact FzK_I _ _
/-- det.Accepts has the same code. -/
theorem caesuraref15_Accepts_body {P : Program} {fr : FuncId} (d : Det) (l : List Int) (hr : PureC P fr [encDet d, encIs l] (encI (numO (runD d l)))) :
    AW P (c_caesuraref15_Accepts fr) (RetK [4] (FzK (encB (accD d l)))) (argF [encDet d, encIs l]) S0 := by
  simp [AW_seq, AW_reg, AW_regD, AW_block, AW_cond, AW_skip, AW_exit, AW_ret, AW_scp, condR_true, condR_false, AThen_normal, AThen_ret, AThen_exit, ABlock_normal, ABlock_ret, ABlock_exit, AScope_normal, AScope_ret, AScope_exit, RetK_ret, RetK_normal, retAV_one, retAV_two, retAV_three, retAV_nil, RG_nil, RG_op, RG_guard, gdR_tt, gdR_ff, gdR_tf, gdR_ft, gdR_un, RG_call, callQ_clo, contK_ap, opR_some, RD_nil, RD_op0, RD_op1, opD0_some, opD1_some, RD_call, callQD_clo, RD_guard, gdD_tt, gdD_ff, gdD_tf, gdD_ft, gdD_un, psh_nil, psh_cons, Apt_nil, Apt_nilT, Apt_true, Apt_false, Dis_def, runT_val, runT_rd, runT_wr, runT_new, runT_mv, ex, put_some, put_none, ev_t, ev_c, argF_zero, argF_succ, set_g, set_n, cells_v, cells_sl, cells_agg, cells_own, cells_ptr, cells_clo, cells_eptr, cells_mp, putc, exBslice, lfill, exField, exIdxV, exIdxP, exBox, exAlloc, exLoad, exStore, exFieldA, exIdxA, exLen, exPick, exUn, exBeq, exMM, exSeq, seqGo, exExt, binV, intOp, subc, AV.solid, S0, encI, encB, c_caesuraref15_Accepts, encDet, encIss, encBs]
  refine CallR.pure hr (cl_cons (closed_Det d) (cl_cons (closed_Is l) cl_nil)) (closed_I _) ?_
  cases hrd : runD d l with
  | none =>
    simp [AW_seq, AW_reg, AW_regD, AW_block, AW_cond, AW_skip, AW_exit, AW_ret, AW_scp, condR_true, condR_false, AThen_normal, AThen_ret, AThen_exit, ABlock_normal, ABlock_ret, ABlock_exit, AScope_normal, AScope_ret, AScope_exit, RetK_ret, RetK_normal, retAV_one, retAV_two, retAV_three, retAV_nil, RG_nil, RG_op, RG_guard, gdR_tt, gdR_ff, gdR_tf, gdR_ft, gdR_un, RG_call, callQ_clo, contK_ap, opR_some, RD_nil, RD_op0, RD_op1, opD0_some, opD1_some, RD_call, callQD_clo, RD_guard, gdD_tt, gdD_ff, gdD_tf, gdD_ft, gdD_un, psh_nil, psh_cons, Apt_nil, Apt_nilT, Apt_true, Apt_false, Dis_def, runT_val, runT_rd, runT_wr, runT_new, runT_mv, ex, put_some, put_none, ev_t, ev_c, argF_zero, argF_succ, set_g, set_n, cells_v, cells_sl, cells_agg, cells_own, cells_ptr, cells_clo, cells_eptr, cells_mp, putc, exBslice, lfill, exField, exIdxV, exIdxP, exBox, exAlloc, exLoad, exStore, exFieldA, exIdxA, exLen, exPick, exUn, exBeq, exMM, exSeq, seqGo, exExt, binV, intOp, subc, AV.solid, S0, encI, encB, numO, accD, hrd]
    exact FzK_B _ _
  | some b =>
    have hb : b < d.fin.length := by
      unfold runD at hrd
      split at hrd
      · rename_i h
        have R := (right_iff d).mp h
        have := runFrom_lt R l 0 (by have := R.n1; omega) b hrd
        have := R.fin
        omega
      · cases hrd
    have hf : accD d l = d.fin[b] := by simp [accD, hrd, List.getD_eq_getElem?_getD, List.getElem?_eq_getElem hb]
    simp [AW_seq, AW_reg, AW_regD, AW_block, AW_cond, AW_skip, AW_exit, AW_ret, AW_scp, condR_true, condR_false, AThen_normal, AThen_ret, AThen_exit, ABlock_normal, ABlock_ret, ABlock_exit, AScope_normal, AScope_ret, AScope_exit, RetK_ret, RetK_normal, retAV_one, retAV_two, retAV_three, retAV_nil, RG_nil, RG_op, RG_guard, gdR_tt, gdR_ff, gdR_tf, gdR_ft, gdR_un, RG_call, callQ_clo, contK_ap, opR_some, RD_nil, RD_op0, RD_op1, opD0_some, opD1_some, RD_call, callQD_clo, RD_guard, gdD_tt, gdD_ff, gdD_tf, gdD_ft, gdD_un, psh_nil, psh_cons, Apt_nil, Apt_nilT, Apt_true, Apt_false, Dis_def, runT_val, runT_rd, runT_wr, runT_new, runT_mv, ex, put_some, put_none, ev_t, ev_c, argF_zero, argF_succ, set_g, set_n, cells_v, cells_sl, cells_agg, cells_own, cells_ptr, cells_clo, cells_eptr, cells_mp, putc, exBslice, lfill, exField, exIdxV, exIdxP, exBox, exAlloc, exLoad, exStore, exFieldA, exIdxA, exLen, exPick, exUn, exBeq, exMM, exSeq, seqGo, exExt, binV, intOp, subc, AV.solid, S0, encI, encB, numO, hrd, hb, hf]
    exact FzK_B _ _
end Go.Rf
