import Derived.Test.YtgmbloldekkieaaRfVec
set_option linter.unusedVariables false
set_option linter.unusedSimpArgs false
namespace Go.Rf
def c_cmp_isNaN_int_ : AC :=
  (.seq (.reg none [
   ⟨(some 2), .mv (.c (.v (.bool false))), none, none⟩])
  (.seq (.reg none [
   ⟨(some 3), .mv (.t 0), none, none⟩,
   ⟨(some 4), .mv (.t 0), none, none⟩,
   ⟨(some 5), .bin .neq (.t 3) (.t 4), none, none⟩,
   ⟨(some 2), .mv (.t 5), none, none⟩])
  .ret))

def c_cmp_Compare_int_ (f_cmp_isNaN_int_ : FuncId) : AC :=
  (.seq (.reg none [
   ⟨(some 4), .mv (.c (.v (.int .i64 0))), none, none⟩])
  (.seq (.reg none [
   ⟨(some 7), .mv (.t 0), none, none⟩,
   ⟨(some 8), .mv (.c .junk), none, (some ((.c (.clo f_cmp_isNaN_int_ [] [])), [(.t 7)]))⟩,
   ⟨(some 5), .mv (.t 8), none, none⟩])
  (.seq (.reg none [
   ⟨(some 9), .mv (.t 1), none, none⟩,
   ⟨(some 10), .mv (.c .junk), none, (some ((.c (.clo f_cmp_isNaN_int_ [] [])), [(.t 9)]))⟩,
   ⟨(some 6), .mv (.t 10), none, none⟩])
  (.seq (.seq (.reg none [
   ⟨(some 11), .mv (.t 5), none, none⟩])
  (.cond (.t 11) (.seq (.seq (.reg none [
    ⟨(some 12), .mv (.t 6), none, none⟩])
   (.cond (.t 12) (.seq (.reg none [
     ⟨(some 4), .mv (.c (.v (.int .i64 0))), none, none⟩])
    .ret) .skip))
   (.seq (.reg none [
    ⟨(some 4), .mv (.c (.v (.int .i64 (-1)))), none, none⟩])
   .ret)) .skip))
  (.seq (.seq (.reg none [
   ⟨(some 13), .mv (.t 6), none, none⟩])
  (.cond (.t 13) (.seq (.reg none [
    ⟨(some 4), .mv (.c (.v (.int .i64 1))), none, none⟩])
   .ret) .skip))
  (.seq (.seq (.reg none [
   ⟨(some 14), .mv (.t 0), none, none⟩,
   ⟨(some 15), .mv (.t 1), none, none⟩,
   ⟨(some 16), .bin .lss (.t 14) (.t 15), none, none⟩])
  (.cond (.t 16) (.seq (.reg none [
    ⟨(some 4), .mv (.c (.v (.int .i64 (-1)))), none, none⟩])
   .ret) .skip))
  (.seq (.seq (.reg none [
   ⟨(some 17), .mv (.t 0), none, none⟩,
   ⟨(some 18), .mv (.t 1), none, none⟩,
   ⟨(some 19), .bin .gtr (.t 17) (.t 18), none, none⟩])
  (.cond (.t 19) (.seq (.reg none [
    ⟨(some 4), .mv (.c (.v (.int .i64 1))), none, none⟩])
   .ret) .skip))
  (.seq (.reg none [
   ⟨(some 4), .mv (.c (.v (.int .i64 0))), none, none⟩])
  .ret))))))))

def c_cmp_Or_int_ : AC :=
  (.seq (.reg none [
   ⟨(some 2), .mv (.c (.v (.int .i64 0))), none, none⟩])
  (.seq (.reg none [
   ⟨(some 3), .mv (.c (.v (.int .i64 0))), none, none⟩])
  (.seq (.seq (.reg none [
   ⟨(some 6), .mv (.t 0), none, none⟩,
   ⟨(some 7), .len (.t 6), none, none⟩,
   ⟨(some 8), .mv (.c (.v (.int .i64 0))), none, none⟩])
  (.block 0 (.loop (.seq (.reg none [
     ⟨(some 9), .bin .lss (.t 8) (.t 7), none, none⟩])
    (.seq (.cond (.t 9) .skip (.exit 0))
    (.seq (.block 1 (.seq (.reg none [
      ⟨(some 10), .idxA 1 (.t 6) (.t 8), none, none⟩,
      ⟨(some 11), .load none (.t 10), none, none⟩,
      ⟨(some 5), .mv (.t 11), none, none⟩])
     (.seq (.reg none [
      ⟨(some 12), .mv (.t 5), none, none⟩,
      ⟨(some 13), .mv (.t 3), none, none⟩,
      ⟨(some 14), .bin .neq (.t 12) (.t 13), none, none⟩])
     (.cond (.t 14) (.seq (.reg none [
       ⟨(some 15), .mv (.t 5), none, none⟩,
       ⟨(some 2), .mv (.t 15), none, none⟩])
      .ret) .skip))))
    (.reg none [
     ⟨(some 16), .bin .add (.t 8) (.c (.v (.int .i64 1))), none, none⟩,
     ⟨(some 8), .mv (.t 16), none, none⟩])))))))
  (.seq (.reg none [
   ⟨(some 17), .mv (.t 3), none, none⟩,
   ⟨(some 2), .mv (.t 17), none, none⟩])
  .ret))))

def c_slices_Compare_Sint_int_ (f_cmp_Compare_int_ : FuncId) : AC :=
  (.seq (.reg none [
   ⟨(some 4), .mv (.c (.v (.int .i64 0))), none, none⟩])
  (.seq (.seq (.reg none [
   ⟨(some 9), .mv (.t 0), none, none⟩,
   ⟨(some 10), .len (.t 9), none, none⟩,
   ⟨(some 11), .mv (.c (.v (.int .i64 0))), none, none⟩])
  (.block 0 (.loop (.seq (.reg none [
     ⟨(some 12), .bin .lss (.t 11) (.t 10), none, none⟩])
    (.seq (.cond (.t 12) .skip (.exit 0))
    (.seq (.block 1 (.seq (.reg none [
      ⟨(some 13), .mv (.t 11), none, none⟩,
      ⟨(some 14), .idxA 1 (.t 9) (.t 11), none, none⟩,
      ⟨(some 15), .load none (.t 14), none, none⟩,
      ⟨(some 5), .mv (.t 13), none, none⟩,
      ⟨(some 6), .mv (.t 15), none, none⟩])
     (.seq (.seq (.reg none [
      ⟨(some 16), .mv (.t 5), none, none⟩,
      ⟨(some 17), .mv (.t 1), none, none⟩,
      ⟨(some 18), .len (.t 17), none, none⟩,
      ⟨(some 19), .bin .geq (.t 16) (.t 18), none, none⟩])
     (.cond (.t 19) (.seq (.reg none [
       ⟨(some 4), .mv (.c (.v (.int .i64 1))), none, none⟩])
      .ret) .skip))
     (.seq (.reg none [
      ⟨(some 20), .mv (.t 1), none, none⟩,
      ⟨(some 21), .mv (.t 5), none, none⟩,
      ⟨(some 22), .idxA 1 (.t 20) (.t 21), none, none⟩,
      ⟨(some 23), .load none (.t 22), none, none⟩,
      ⟨(some 7), .mv (.t 23), none, none⟩])
     (.seq (.reg none [
      ⟨(some 24), .mv (.t 6), none, none⟩,
      ⟨(some 25), .mv (.t 7), none, none⟩,
      ⟨(some 26), .mv (.c .junk), none, (some ((.c (.clo f_cmp_Compare_int_ [] [])), [(.t 24), (.t 25)]))⟩,
      ⟨(some 8), .mv (.t 26), none, none⟩])
     (.seq (.reg none [
      ⟨(some 27), .mv (.t 8), none, none⟩,
      ⟨(some 28), .bin .neq (.t 27) (.c (.v (.int .i64 0))), none, none⟩])
     (.cond (.t 28) (.seq (.reg none [
       ⟨(some 29), .mv (.t 8), none, none⟩,
       ⟨(some 4), .mv (.t 29), none, none⟩])
      .ret) .skip)))))))
    (.reg none [
     ⟨(some 30), .bin .add (.t 11) (.c (.v (.int .i64 1))), none, none⟩,
     ⟨(some 11), .mv (.t 30), none, none⟩])))))))
  (.seq (.seq (.reg none [
   ⟨(some 31), .mv (.t 0), none, none⟩,
   ⟨(some 32), .len (.t 31), none, none⟩,
   ⟨(some 33), .mv (.t 1), none, none⟩,
   ⟨(some 34), .len (.t 33), none, none⟩,
   ⟨(some 35), .bin .lss (.t 32) (.t 34), none, none⟩])
  (.cond (.t 35) (.seq (.reg none [
    ⟨(some 4), .mv (.c (.v (.int .i64 (-1)))), none, none⟩])
   .ret) .skip))
  (.seq (.reg none [
   ⟨(some 4), .mv (.c (.v (.int .i64 0))), none, none⟩])
  .ret))))

def c_path_Before (f_cmp_Compare_int_ f_slices_Compare_Sint_int_ f_cmp_Or_int_ : FuncId) : AC :=
  (.seq (.reg none [
   ⟨(some 4), .mv (.c (.v (.bool false))), none, none⟩])
  (.seq (.reg none [
   ⟨(some 5), .mv (.t 0), none, none⟩,
   ⟨(some 6), .len (.t 5), none, none⟩,
   ⟨(some 7), .mv (.t 1), none, none⟩,
   ⟨(some 8), .len (.t 7), none, none⟩,
   ⟨(some 9), .mv (.c .junk), none, (some ((.c (.clo f_cmp_Compare_int_ [] [])), [(.t 6), (.t 8)]))⟩,
   ⟨(some 10), .mv (.t 0), none, none⟩,
   ⟨(some 11), .mv (.t 1), none, none⟩,
   ⟨(some 12), .mv (.c .junk), none, (some ((.c (.clo f_slices_Compare_Sint_int_ [] [])), [(.t 10), (.t 11)]))⟩,
   ⟨(some 13), .bslice 1 2 (.v (.int .i64 0)) [(0, (.t 9)), (1, (.t 12))], none, none⟩,
   ⟨(some 14), .mv (.c .junk), none, (some ((.c (.clo f_cmp_Or_int_ [] [])), [(.t 13)]))⟩,
   ⟨(some 15), .bin .lss (.t 14) (.c (.v (.int .i64 0))), none, none⟩,
   ⟨(some 4), .mv (.t 15), none, none⟩])
  .ret))

def c_caesuraref18_Before : AC :=
  (.seq (.reg none [
   ⟨(some 4), .mv (.c (.v (.bool false))), none, none⟩])
  (.seq (.seq (.reg none [
   ⟨(some 6), .mv (.t 0), none, none⟩,
   ⟨(some 7), .len (.t 6), none, none⟩,
   ⟨(some 8), .mv (.t 1), none, none⟩,
   ⟨(some 9), .len (.t 8), none, none⟩,
   ⟨(some 10), .bin .neq (.t 7) (.t 9), none, none⟩])
  (.cond (.t 10) (.seq (.reg none [
    ⟨(some 11), .mv (.t 0), none, none⟩,
    ⟨(some 12), .len (.t 11), none, none⟩,
    ⟨(some 13), .mv (.t 1), none, none⟩,
    ⟨(some 14), .len (.t 13), none, none⟩,
    ⟨(some 15), .bin .lss (.t 12) (.t 14), none, none⟩,
    ⟨(some 4), .mv (.t 15), none, none⟩])
   .ret) .skip))
  (.seq (.seq (.reg none [
   ⟨(some 5), .mv (.c (.v (.int .i64 0))), none, none⟩])
  (.block 0 (.loop (.seq (.seq (.reg none [
     ⟨(some 16), .mv (.t 5), none, none⟩,
     ⟨(some 17), .mv (.t 0), none, none⟩,
     ⟨(some 18), .len (.t 17), none, none⟩,
     ⟨(some 19), .bin .lss (.t 16) (.t 18), none, none⟩])
    (.cond (.t 19) .skip (.exit 0)))
    (.seq (.block 1 (.seq (.reg (some []) [
      ⟨(some 22), .mv (.t 0), none, none⟩,
      ⟨(some 23), .mv (.t 5), none, none⟩,
      ⟨(some 24), .idxA 1 (.t 22) (.t 23), none, none⟩,
      ⟨(some 25), .load none (.t 24), none, none⟩,
      ⟨(some 26), .mv (.t 1), none, none⟩,
      ⟨(some 27), .mv (.t 5), none, none⟩,
      ⟨(some 28), .idxA 1 (.t 26) (.t 27), none, none⟩,
      ⟨(some 29), .load none (.t 28), none, none⟩,
      ⟨(some 30), .bin .neq (.t 25) (.t 29), none, none⟩])
     (.cond (.t 30) (.seq (.reg (some []) [
       ⟨(some 31), .mv (.t 0), none, none⟩,
       ⟨(some 32), .mv (.t 5), none, none⟩,
       ⟨(some 33), .idxA 1 (.t 31) (.t 32), none, none⟩,
       ⟨(some 34), .load none (.t 33), none, none⟩,
       ⟨(some 35), .mv (.t 1), none, none⟩,
       ⟨(some 36), .mv (.t 5), none, none⟩,
       ⟨(some 37), .idxA 1 (.t 35) (.t 36), none, none⟩,
       ⟨(some 38), .load none (.t 37), none, none⟩,
       ⟨(some 39), .bin .lss (.t 34) (.t 38), none, none⟩,
       ⟨(some 4), .mv (.t 39), none, none⟩])
      .ret) .skip)))
    (.reg none [
     ⟨(some 20), .mv (.t 5), none, none⟩,
     ⟨(some 21), .bin .add (.t 20) (.c (.v (.int .i64 1))), none, none⟩,
     ⟨(some 5), .mv (.t 21), none, none⟩]))))))
  (.seq (.reg none [
   ⟨(some 4), .mv (.c (.v (.bool false))), none, none⟩])
  .ret))))

theorem cmp_isNaN_body (P : Program) (n : Int) : AW P c_cmp_isNaN_int_ (RetK [2] (FzK (encB false))) (argF [encI n]) S0 := by
  simp [AW_seq, AW_reg, AW_regD, AW_block, AW_cond, AW_skip, AW_exit, AW_ret, AW_scp, condR_true, condR_false, AThen_normal, AThen_ret, AThen_exit, ABlock_normal, ABlock_ret, ABlock_exit, AScope_normal, AScope_ret, AScope_exit, RetK_ret, RetK_normal, retAV_one, retAV_two, retAV_three, retAV_nil, RG_nil, RG_op, RG_guard, gdR_tt, gdR_ff, gdR_tf, gdR_ft, gdR_un, RG_call, callQ_clo, contK_ap, opR_some, RD_nil, RD_op0, RD_op1, opD0_some, opD1_some, RD_call, callQD_clo, RD_guard, gdD_tt, gdD_ff, gdD_tf, gdD_ft, gdD_un, psh_nil, psh_cons, Apt_nil, Apt_nilT, Apt_true, Apt_false, Dis_def, runT_val, runT_rd, runT_wr, runT_new, runT_mv, ex, put_some, put_none, ev_t, ev_c, argF_zero, argF_succ, set_g, set_n, cells_v, cells_sl, cells_agg, cells_own, cells_ptr, cells_clo, cells_eptr, cells_mp, putc, exBslice, lfill, exField, exIdxV, exIdxP, exBox, exAlloc, exLoad, exStore, exFieldA, exIdxA, exLen, exPick, exUn, exBeq, exMM, exSeq, seqGo, exExt, binV, intOp, subc, AV.solid, S0, encI, encB, c_cmp_isNaN_int_]
  exact FzK_B false _
def cmpI (a b : Int) : Int := if a < b then -1 else if b < a then 1 else 0
theorem cmp_Compare_body {P : Program} {f : FuncId} (a b : Int) (h : ∀ n, PureC P f [encI n] (encB false)) : AW P (c_cmp_Compare_int_ f) (RetK [4] (FzK (encI (cmpI a b)))) (argF [encI a, encI b]) S0 := by
  simp [AW_seq, AW_reg, AW_regD, AW_block, AW_cond, AW_skip, AW_exit, AW_ret, AW_scp, condR_true, condR_false, AThen_normal, AThen_ret, AThen_exit, ABlock_normal, ABlock_ret, ABlock_exit, AScope_normal, AScope_ret, AScope_exit, RetK_ret, RetK_normal, retAV_one, retAV_two, retAV_three, retAV_nil, RG_nil, RG_op, RG_guard, gdR_tt, gdR_ff, gdR_tf, gdR_ft, gdR_un, RG_call, callQ_clo, contK_ap, opR_some, RD_nil, RD_op0, RD_op1, opD0_some, opD1_some, RD_call, callQD_clo, RD_guard, gdD_tt, gdD_ff, gdD_tf, gdD_ft, gdD_un, psh_nil, psh_cons, Apt_nil, Apt_nilT, Apt_true, Apt_false, Dis_def, runT_val, runT_rd, runT_wr, runT_new, runT_mv, ex, put_some, put_none, ev_t, ev_c, argF_zero, argF_succ, set_g, set_n, cells_v, cells_sl, cells_agg, cells_own, cells_ptr, cells_clo, cells_eptr, cells_mp, putc, exBslice, lfill, exField, exIdxV, exIdxP, exBox, exAlloc, exLoad, exStore, exFieldA, exIdxA, exLen, exPick, exUn, exBeq, exMM, exSeq, seqGo, exExt, binV, intOp, subc, AV.solid, S0, encI, encB, c_cmp_Compare_int_]
  refine CallR.pure (h a) (cl_cons (closed_I _) cl_nil) (closed_B _) ?_
  simp [AW_seq, AW_reg, AW_regD, AW_block, AW_cond, AW_skip, AW_exit, AW_ret, AW_scp, condR_true, condR_false, AThen_normal, AThen_ret, AThen_exit, ABlock_normal, ABlock_ret, ABlock_exit, AScope_normal, AScope_ret, AScope_exit, RetK_ret, RetK_normal, retAV_one, retAV_two, retAV_three, retAV_nil, RG_nil, RG_op, RG_guard, gdR_tt, gdR_ff, gdR_tf, gdR_ft, gdR_un, RG_call, callQ_clo, contK_ap, opR_some, RD_nil, RD_op0, RD_op1, opD0_some, opD1_some, RD_call, callQD_clo, RD_guard, gdD_tt, gdD_ff, gdD_tf, gdD_ft, gdD_un, psh_nil, psh_cons, Apt_nil, Apt_nilT, Apt_true, Apt_false, Dis_def, runT_val, runT_rd, runT_wr, runT_new, runT_mv, ex, put_some, put_none, ev_t, ev_c, argF_zero, argF_succ, set_g, set_n, cells_v, cells_sl, cells_agg, cells_own, cells_ptr, cells_clo, cells_eptr, cells_mp, putc, exBslice, lfill, exField, exIdxV, exIdxP, exBox, exAlloc, exLoad, exStore, exFieldA, exIdxA, exLen, exPick, exUn, exBeq, exMM, exSeq, seqGo, exExt, binV, intOp, subc, AV.solid, S0, encI, encB]
  refine CallR.pure (h b) (cl_cons (closed_I _) cl_nil) (closed_B _) ?_
  by_cases h1 : a < b
  · simp [AW_seq, AW_reg, AW_regD, AW_block, AW_cond, AW_skip, AW_exit, AW_ret, AW_scp, condR_true, condR_false, AThen_normal, AThen_ret, AThen_exit, ABlock_normal, ABlock_ret, ABlock_exit, AScope_normal, AScope_ret, AScope_exit, RetK_ret, RetK_normal, retAV_one, retAV_two, retAV_three, retAV_nil, RG_nil, RG_op, RG_guard, gdR_tt, gdR_ff, gdR_tf, gdR_ft, gdR_un, RG_call, callQ_clo, contK_ap, opR_some, RD_nil, RD_op0, RD_op1, opD0_some, opD1_some, RD_call, callQD_clo, RD_guard, gdD_tt, gdD_ff, gdD_tf, gdD_ft, gdD_un, psh_nil, psh_cons, Apt_nil, Apt_nilT, Apt_true, Apt_false, Dis_def, runT_val, runT_rd, runT_wr, runT_new, runT_mv, ex, put_some, put_none, ev_t, ev_c, argF_zero, argF_succ, set_g, set_n, cells_v, cells_sl, cells_agg, cells_own, cells_ptr, cells_clo, cells_eptr, cells_mp, putc, exBslice, lfill, exField, exIdxV, exIdxP, exBox, exAlloc, exLoad, exStore, exFieldA, exIdxA, exLen, exPick, exUn, exBeq, exMM, exSeq, seqGo, exExt, binV, intOp, subc, AV.solid, S0, encI, encB, h1, cmpI]
    exact FzK_I _ _
  by_cases h2 : b < a
  · simp [AW_seq, AW_reg, AW_regD, AW_block, AW_cond, AW_skip, AW_exit, AW_ret, AW_scp, condR_true, condR_false, AThen_normal, AThen_ret, AThen_exit, ABlock_normal, ABlock_ret, ABlock_exit, AScope_normal, AScope_ret, AScope_exit, RetK_ret, RetK_normal, retAV_one, retAV_two, retAV_three, retAV_nil, RG_nil, RG_op, RG_guard, gdR_tt, gdR_ff, gdR_tf, gdR_ft, gdR_un, RG_call, callQ_clo, contK_ap, opR_some, RD_nil, RD_op0, RD_op1, opD0_some, opD1_some, RD_call, callQD_clo, RD_guard, gdD_tt, gdD_ff, gdD_tf, gdD_ft, gdD_un, psh_nil, psh_cons, Apt_nil, Apt_nilT, Apt_true, Apt_false, Dis_def, runT_val, runT_rd, runT_wr, runT_new, runT_mv, ex, put_some, put_none, ev_t, ev_c, argF_zero, argF_succ, set_g, set_n, cells_v, cells_sl, cells_agg, cells_own, cells_ptr, cells_clo, cells_eptr, cells_mp, putc, exBslice, lfill, exField, exIdxV, exIdxP, exBox, exAlloc, exLoad, exStore, exFieldA, exIdxA, exLen, exPick, exUn, exBeq, exMM, exSeq, seqGo, exExt, binV, intOp, subc, AV.solid, S0, encI, encB, h1, h2, cmpI]
    exact FzK_I _ _
  simp [AW_seq, AW_reg, AW_regD, AW_block, AW_cond, AW_skip, AW_exit, AW_ret, AW_scp, condR_true, condR_false, AThen_normal, AThen_ret, AThen_exit, ABlock_normal, ABlock_ret, ABlock_exit, AScope_normal, AScope_ret, AScope_exit, RetK_ret, RetK_normal, retAV_one, retAV_two, retAV_three, retAV_nil, RG_nil, RG_op, RG_guard, gdR_tt, gdR_ff, gdR_tf, gdR_ft, gdR_un, RG_call, callQ_clo, contK_ap, opR_some, RD_nil, RD_op0, RD_op1, opD0_some, opD1_some, RD_call, callQD_clo, RD_guard, gdD_tt, gdD_ff, gdD_tf, gdD_ft, gdD_un, psh_nil, psh_cons, Apt_nil, Apt_nilT, Apt_true, Apt_false, Dis_def, runT_val, runT_rd, runT_wr, runT_new, runT_mv, ex, put_some, put_none, ev_t, ev_c, argF_zero, argF_succ, set_g, set_n, cells_v, cells_sl, cells_agg, cells_own, cells_ptr, cells_clo, cells_eptr, cells_mp, putc, exBslice, lfill, exField, exIdxV, exIdxP, exBox, exAlloc, exLoad, exStore, exFieldA, exIdxA, exLen, exPick, exUn, exBeq, exMM, exSeq, seqGo, exExt, binV, intOp, subc, AV.solid, S0, encI, encB, h1, h2, cmpI]
  exact FzK_I _ _
def orL : List Int → Int
  | [] => 0
  | x :: l => if x ≠ 0 then x else orL l
def orI (l : List Int) (m : Nat) (f : AF) (S : St) : Prop :=
  ∃ i : Nat, i ≤ l.length ∧ m = l.length - i ∧ f 8 = encI i ∧ f 7 = encI l.length ∧ f 6 = encIs l ∧ f 3 = encI 0 ∧ orL l = orL (l.drop i)
theorem cmp_Or_body (P : Program) (l : List Int) (hl : Len l) : AW P c_cmp_Or_int_ (RetK [2] (FzK (encI (orL l)))) (argF [encIs l]) S0 := by
  unfold Len at hl
  simp [AW_seq, AW_reg, AW_regD, AW_block, AW_cond, AW_skip, AW_exit, AW_ret, AW_scp, condR_true, condR_false, AThen_normal, AThen_ret, AThen_exit, ABlock_normal, ABlock_ret, ABlock_exit, AScope_normal, AScope_ret, AScope_exit, RetK_ret, RetK_normal, retAV_one, retAV_two, retAV_three, retAV_nil, RG_nil, RG_op, RG_guard, gdR_tt, gdR_ff, gdR_tf, gdR_ft, gdR_un, RG_call, callQ_clo, contK_ap, opR_some, RD_nil, RD_op0, RD_op1, opD0_some, opD1_some, RD_call, callQD_clo, RD_guard, gdD_tt, gdD_ff, gdD_tf, gdD_ft, gdD_un, psh_nil, psh_cons, Apt_nil, Apt_nilT, Apt_true, Apt_false, Dis_def, runT_val, runT_rd, runT_wr, runT_new, runT_mv, ex, put_some, put_none, ev_t, ev_c, argF_zero, argF_succ, set_g, set_n, cells_v, cells_sl, cells_agg, cells_own, cells_ptr, cells_clo, cells_eptr, cells_mp, putc, exBslice, lfill, exField, exIdxV, exIdxP, exBox, exAlloc, exLoad, exStore, exFieldA, exIdxA, exLen, exPick, exUn, exBeq, exMM, exSeq, seqGo, exExt, binV, intOp, subc, AV.solid, S0, encI, encB, c_cmp_Or_int_, encIs]
  refine AW_loop (orI l) l.length ?_ ?_
  · refine ⟨0, by omega, by omega, ?_, ?_, ?_, ?_, by simp⟩ <;> simp [put_some, argF_zero, argF_succ, encI, encIs]
  · rintro m f S ⟨i, hi, rfl, e8, e7, e6, e3, hq⟩
    by_cases hlt : i < l.length
    · rw [List.drop_eq_getElem_cons hlt, orL] at hq
      by_cases hz : l[i] = 0
      · rw [if_neg (by simp [hz])] at hq
        have hc : (l[i] != 0) = false := by simp [hz]
        simp [AW_seq, AW_reg, AW_regD, AW_block, AW_cond, AW_skip, AW_exit, AW_ret, AW_scp, condR_true, condR_false, AThen_normal, AThen_ret, AThen_exit, ABlock_normal, ABlock_ret, ABlock_exit, AScope_normal, AScope_ret, AScope_exit, RetK_ret, RetK_normal, retAV_one, retAV_two, retAV_three, retAV_nil, RG_nil, RG_op, RG_guard, gdR_tt, gdR_ff, gdR_tf, gdR_ft, gdR_un, RG_call, callQ_clo, contK_ap, opR_some, RD_nil, RD_op0, RD_op1, opD0_some, opD1_some, RD_call, callQD_clo, RD_guard, gdD_tt, gdD_ff, gdD_tf, gdD_ft, gdD_un, psh_nil, psh_cons, Apt_nil, Apt_nilT, Apt_true, Apt_false, Dis_def, runT_val, runT_rd, runT_wr, runT_new, runT_mv, ex, put_some, put_none, ev_t, ev_c, argF_zero, argF_succ, set_g, set_n, cells_v, cells_sl, cells_agg, cells_own, cells_ptr, cells_clo, cells_eptr, cells_mp, putc, exBslice, lfill, exField, exIdxV, exIdxP, exBox, exAlloc, exLoad, exStore, exFieldA, exIdxA, exLen, exPick, exUn, exBeq, exMM, exSeq, seqGo, exExt, binV, intOp, subc, AV.solid, S0, encI, encB, e8, e7, e6, e3, encIs, hlt, hc]
        rw [wrap_in _ (by omega)]
        refine ⟨l.length - (i + 1), by omega, i + 1, by omega, rfl, ?_, ?_, ?_, ?_, hq⟩ <;> simp [put_some, e8, e7, e6, e3, encI, encIs]
      · rw [if_pos hz] at hq
        have hc : (l[i] != 0) = true := by simp [hz]
        simp [AW_seq, AW_reg, AW_regD, AW_block, AW_cond, AW_skip, AW_exit, AW_ret, AW_scp, condR_true, condR_false, AThen_normal, AThen_ret, AThen_exit, ABlock_normal, ABlock_ret, ABlock_exit, AScope_normal, AScope_ret, AScope_exit, RetK_ret, RetK_normal, retAV_one, retAV_two, retAV_three, retAV_nil, RG_nil, RG_op, RG_guard, gdR_tt, gdR_ff, gdR_tf, gdR_ft, gdR_un, RG_call, callQ_clo, contK_ap, opR_some, RD_nil, RD_op0, RD_op1, opD0_some, opD1_some, RD_call, callQD_clo, RD_guard, gdD_tt, gdD_ff, gdD_tf, gdD_ft, gdD_un, psh_nil, psh_cons, Apt_nil, Apt_nilT, Apt_true, Apt_false, Dis_def, runT_val, runT_rd, runT_wr, runT_new, runT_mv, ex, put_some, put_none, ev_t, ev_c, argF_zero, argF_succ, set_g, set_n, cells_v, cells_sl, cells_agg, cells_own, cells_ptr, cells_clo, cells_eptr, cells_mp, putc, exBslice, lfill, exField, exIdxV, exIdxP, exBox, exAlloc, exLoad, exStore, exFieldA, exIdxA, exLen, exPick, exUn, exBeq, exMM, exSeq, seqGo, exExt, binV, intOp, subc, AV.solid, S0, encI, encB, e8, e7, e6, e3, encIs, hlt, hc, hq]
        exact FzK_I _ _
    · rw [List.drop_of_length_le (by omega), orL] at hq
      simp [AW_seq, AW_reg, AW_regD, AW_block, AW_cond, AW_skip, AW_exit, AW_ret, AW_scp, condR_true, condR_false, AThen_normal, AThen_ret, AThen_exit, ABlock_normal, ABlock_ret, ABlock_exit, AScope_normal, AScope_ret, AScope_exit, RetK_ret, RetK_normal, retAV_one, retAV_two, retAV_three, retAV_nil, RG_nil, RG_op, RG_guard, gdR_tt, gdR_ff, gdR_tf, gdR_ft, gdR_un, RG_call, callQ_clo, contK_ap, opR_some, RD_nil, RD_op0, RD_op1, opD0_some, opD1_some, RD_call, callQD_clo, RD_guard, gdD_tt, gdD_ff, gdD_tf, gdD_ft, gdD_un, psh_nil, psh_cons, Apt_nil, Apt_nilT, Apt_true, Apt_false, Dis_def, runT_val, runT_rd, runT_wr, runT_new, runT_mv, ex, put_some, put_none, ev_t, ev_c, argF_zero, argF_succ, set_g, set_n, cells_v, cells_sl, cells_agg, cells_own, cells_ptr, cells_clo, cells_eptr, cells_mp, putc, exBslice, lfill, exField, exIdxV, exIdxP, exBox, exAlloc, exLoad, exStore, exFieldA, exIdxA, exLen, exPick, exUn, exBeq, exMM, exSeq, seqGo, exExt, binV, intOp, subc, AV.solid, S0, encI, encB, e8, e7, e6, e3, encIs, hlt, hq]
      exact FzK_I _ _
def cmpL : List Int → List Int → Int
  | [], [] => 0
  | [], _ :: _ => -1
  | _ :: _, [] => 1
  | x :: a, y :: b => if cmpI x y ≠ 0 then cmpI x y else cmpL a b
theorem cmpL_nil_left (b : List Int) : cmpL [] b = if b.length = 0 then 0 else -1 := by cases b <;> simp [cmpL]
def cmpJ (a b : List Int) (m : Nat) (f : AF) (S : St) : Prop :=
  ∃ i : Nat, i ≤ a.length ∧ i ≤ b.length ∧ m = a.length - i ∧ f 11 = encI i ∧ f 10 = encI a.length ∧ f 9 = encIs a ∧ f 1 = encIs b ∧ f 0 = encIs a ∧ cmpL a b = cmpL (a.drop i) (b.drop i)
theorem slices_Compare_body {P : Program} {f : FuncId} (a b : List Int) (ha : Len a) (hb : Len b) (h : ∀ x y, PureC P f [encI x, encI y] (encI (cmpI x y))) :
    AW P (c_slices_Compare_Sint_int_ f) (RetK [4] (FzK (encI (cmpL a b)))) (argF [encIs a, encIs b]) S0 := by
  unfold Len at ha hb
  simp [AW_seq, AW_reg, AW_regD, AW_block, AW_cond, AW_skip, AW_exit, AW_ret, AW_scp, condR_true, condR_false, AThen_normal, AThen_ret, AThen_exit, ABlock_normal, ABlock_ret, ABlock_exit, AScope_normal, AScope_ret, AScope_exit, RetK_ret, RetK_normal, retAV_one, retAV_two, retAV_three, retAV_nil, RG_nil, RG_op, RG_guard, gdR_tt, gdR_ff, gdR_tf, gdR_ft, gdR_un, RG_call, callQ_clo, contK_ap, opR_some, RD_nil, RD_op0, RD_op1, opD0_some, opD1_some, RD_call, callQD_clo, RD_guard, gdD_tt, gdD_ff, gdD_tf, gdD_ft, gdD_un, psh_nil, psh_cons, Apt_nil, Apt_nilT, Apt_true, Apt_false, Dis_def, runT_val, runT_rd, runT_wr, runT_new, runT_mv, ex, put_some, put_none, ev_t, ev_c, argF_zero, argF_succ, set_g, set_n, cells_v, cells_sl, cells_agg, cells_own, cells_ptr, cells_clo, cells_eptr, cells_mp, putc, exBslice, lfill, exField, exIdxV, exIdxP, exBox, exAlloc, exLoad, exStore, exFieldA, exIdxA, exLen, exPick, exUn, exBeq, exMM, exSeq, seqGo, exExt, binV, intOp, subc, AV.solid, S0, encI, encB, c_slices_Compare_Sint_int_, encIs]
  refine AW_loop (cmpJ a b) a.length ?_ ?_
  · refine ⟨0, by omega, by omega, by omega, ?_, ?_, ?_, ?_, ?_, by simp⟩ <;> simp [put_some, argF_zero, argF_succ, encI, encIs]
  · rintro m g S ⟨i, hi, hib, rfl, e11, e10, e9, e1, e0, hq⟩
    by_cases hlt : i < a.length
    · by_cases hlb : i < b.length
      · have hnb : ¬ (b.length : Int) ≤ i := by omega
        rw [List.drop_eq_getElem_cons hlt, List.drop_eq_getElem_cons hlb, cmpL] at hq
        simp [AW_seq, AW_reg, AW_regD, AW_block, AW_cond, AW_skip, AW_exit, AW_ret, AW_scp, condR_true, condR_false, AThen_normal, AThen_ret, AThen_exit, ABlock_normal, ABlock_ret, ABlock_exit, AScope_normal, AScope_ret, AScope_exit, RetK_ret, RetK_normal, retAV_one, retAV_two, retAV_three, retAV_nil, RG_nil, RG_op, RG_guard, gdR_tt, gdR_ff, gdR_tf, gdR_ft, gdR_un, RG_call, callQ_clo, contK_ap, opR_some, RD_nil, RD_op0, RD_op1, opD0_some, opD1_some, RD_call, callQD_clo, RD_guard, gdD_tt, gdD_ff, gdD_tf, gdD_ft, gdD_un, psh_nil, psh_cons, Apt_nil, Apt_nilT, Apt_true, Apt_false, Dis_def, runT_val, runT_rd, runT_wr, runT_new, runT_mv, ex, put_some, put_none, ev_t, ev_c, argF_zero, argF_succ, set_g, set_n, cells_v, cells_sl, cells_agg, cells_own, cells_ptr, cells_clo, cells_eptr, cells_mp, putc, exBslice, lfill, exField, exIdxV, exIdxP, exBox, exAlloc, exLoad, exStore, exFieldA, exIdxA, exLen, exPick, exUn, exBeq, exMM, exSeq, seqGo, exExt, binV, intOp, subc, AV.solid, S0, encI, encB, e11, e10, e9, e1, e0, encIs, hlt, hlb, hnb]
        refine CallR.pure (h a[i] b[i]) (cl_cons (closed_I _) (cl_cons (closed_I _) cl_nil)) (closed_I _) ?_
        by_cases hz : cmpI a[i] b[i] = 0
        · rw [if_neg (by simp [hz])] at hq
          have hc : (cmpI a[i] b[i] != 0) = false := by simp [hz]
          simp [AW_seq, AW_reg, AW_regD, AW_block, AW_cond, AW_skip, AW_exit, AW_ret, AW_scp, condR_true, condR_false, AThen_normal, AThen_ret, AThen_exit, ABlock_normal, ABlock_ret, ABlock_exit, AScope_normal, AScope_ret, AScope_exit, RetK_ret, RetK_normal, retAV_one, retAV_two, retAV_three, retAV_nil, RG_nil, RG_op, RG_guard, gdR_tt, gdR_ff, gdR_tf, gdR_ft, gdR_un, RG_call, callQ_clo, contK_ap, opR_some, RD_nil, RD_op0, RD_op1, opD0_some, opD1_some, RD_call, callQD_clo, RD_guard, gdD_tt, gdD_ff, gdD_tf, gdD_ft, gdD_un, psh_nil, psh_cons, Apt_nil, Apt_nilT, Apt_true, Apt_false, Dis_def, runT_val, runT_rd, runT_wr, runT_new, runT_mv, ex, put_some, put_none, ev_t, ev_c, argF_zero, argF_succ, set_g, set_n, cells_v, cells_sl, cells_agg, cells_own, cells_ptr, cells_clo, cells_eptr, cells_mp, putc, exBslice, lfill, exField, exIdxV, exIdxP, exBox, exAlloc, exLoad, exStore, exFieldA, exIdxA, exLen, exPick, exUn, exBeq, exMM, exSeq, seqGo, exExt, binV, intOp, subc, AV.solid, S0, encI, encB, e11, e10, e9, e1, e0, encIs, hc]
          rw [wrap_in _ (by omega)]
          refine ⟨a.length - (i + 1), by omega, i + 1, by omega, by omega, rfl, ?_, ?_, ?_, ?_, ?_, hq⟩ <;> simp [put_some, e11, e10, e9, e1, e0, encI, encIs]
        · rw [if_pos hz] at hq
          have hc : (cmpI a[i] b[i] != 0) = true := by simp [hz]
          simp [AW_seq, AW_reg, AW_regD, AW_block, AW_cond, AW_skip, AW_exit, AW_ret, AW_scp, condR_true, condR_false, AThen_normal, AThen_ret, AThen_exit, ABlock_normal, ABlock_ret, ABlock_exit, AScope_normal, AScope_ret, AScope_exit, RetK_ret, RetK_normal, retAV_one, retAV_two, retAV_three, retAV_nil, RG_nil, RG_op, RG_guard, gdR_tt, gdR_ff, gdR_tf, gdR_ft, gdR_un, RG_call, callQ_clo, contK_ap, opR_some, RD_nil, RD_op0, RD_op1, opD0_some, opD1_some, RD_call, callQD_clo, RD_guard, gdD_tt, gdD_ff, gdD_tf, gdD_ft, gdD_un, psh_nil, psh_cons, Apt_nil, Apt_nilT, Apt_true, Apt_false, Dis_def, runT_val, runT_rd, runT_wr, runT_new, runT_mv, ex, put_some, put_none, ev_t, ev_c, argF_zero, argF_succ, set_g, set_n, cells_v, cells_sl, cells_agg, cells_own, cells_ptr, cells_clo, cells_eptr, cells_mp, putc, exBslice, lfill, exField, exIdxV, exIdxP, exBox, exAlloc, exLoad, exStore, exFieldA, exIdxA, exLen, exPick, exUn, exBeq, exMM, exSeq, seqGo, exExt, binV, intOp, subc, AV.solid, S0, encI, encB, e11, e10, e9, e1, e0, encIs, hc, hq]
          exact FzK_I _ _
      · have hnb : (b.length : Int) ≤ i := by omega
        rw [List.drop_eq_getElem_cons hlt, List.drop_of_length_le (l := b) (by omega), cmpL] at hq
        simp [AW_seq, AW_reg, AW_regD, AW_block, AW_cond, AW_skip, AW_exit, AW_ret, AW_scp, condR_true, condR_false, AThen_normal, AThen_ret, AThen_exit, ABlock_normal, ABlock_ret, ABlock_exit, AScope_normal, AScope_ret, AScope_exit, RetK_ret, RetK_normal, retAV_one, retAV_two, retAV_three, retAV_nil, RG_nil, RG_op, RG_guard, gdR_tt, gdR_ff, gdR_tf, gdR_ft, gdR_un, RG_call, callQ_clo, contK_ap, opR_some, RD_nil, RD_op0, RD_op1, opD0_some, opD1_some, RD_call, callQD_clo, RD_guard, gdD_tt, gdD_ff, gdD_tf, gdD_ft, gdD_un, psh_nil, psh_cons, Apt_nil, Apt_nilT, Apt_true, Apt_false, Dis_def, runT_val, runT_rd, runT_wr, runT_new, runT_mv, ex, put_some, put_none, ev_t, ev_c, argF_zero, argF_succ, set_g, set_n, cells_v, cells_sl, cells_agg, cells_own, cells_ptr, cells_clo, cells_eptr, cells_mp, putc, exBslice, lfill, exField, exIdxV, exIdxP, exBox, exAlloc, exLoad, exStore, exFieldA, exIdxA, exLen, exPick, exUn, exBeq, exMM, exSeq, seqGo, exExt, binV, intOp, subc, AV.solid, S0, encI, encB, e11, e10, e9, e1, e0, encIs, hlt, hnb, hq]
        exact FzK_I _ _
    · have hia : i = a.length := by omega
      rw [List.drop_of_length_le (l := a) (by omega), cmpL_nil_left] at hq
      by_cases hlb : a.length < b.length
      · rw [if_neg (by simp; omega)] at hq
        simp [AW_seq, AW_reg, AW_regD, AW_block, AW_cond, AW_skip, AW_exit, AW_ret, AW_scp, condR_true, condR_false, AThen_normal, AThen_ret, AThen_exit, ABlock_normal, ABlock_ret, ABlock_exit, AScope_normal, AScope_ret, AScope_exit, RetK_ret, RetK_normal, retAV_one, retAV_two, retAV_three, retAV_nil, RG_nil, RG_op, RG_guard, gdR_tt, gdR_ff, gdR_tf, gdR_ft, gdR_un, RG_call, callQ_clo, contK_ap, opR_some, RD_nil, RD_op0, RD_op1, opD0_some, opD1_some, RD_call, callQD_clo, RD_guard, gdD_tt, gdD_ff, gdD_tf, gdD_ft, gdD_un, psh_nil, psh_cons, Apt_nil, Apt_nilT, Apt_true, Apt_false, Dis_def, runT_val, runT_rd, runT_wr, runT_new, runT_mv, ex, put_some, put_none, ev_t, ev_c, argF_zero, argF_succ, set_g, set_n, cells_v, cells_sl, cells_agg, cells_own, cells_ptr, cells_clo, cells_eptr, cells_mp, putc, exBslice, lfill, exField, exIdxV, exIdxP, exBox, exAlloc, exLoad, exStore, exFieldA, exIdxA, exLen, exPick, exUn, exBeq, exMM, exSeq, seqGo, exExt, binV, intOp, subc, AV.solid, S0, encI, encB, e11, e10, e9, e1, e0, encIs, hlt, hlb, hq]
        exact FzK_I _ _
      · rw [if_pos (by simp; omega)] at hq
        simp [AW_seq, AW_reg, AW_regD, AW_block, AW_cond, AW_skip, AW_exit, AW_ret, AW_scp, condR_true, condR_false, AThen_normal, AThen_ret, AThen_exit, ABlock_normal, ABlock_ret, ABlock_exit, AScope_normal, AScope_ret, AScope_exit, RetK_ret, RetK_normal, retAV_one, retAV_two, retAV_three, retAV_nil, RG_nil, RG_op, RG_guard, gdR_tt, gdR_ff, gdR_tf, gdR_ft, gdR_un, RG_call, callQ_clo, contK_ap, opR_some, RD_nil, RD_op0, RD_op1, opD0_some, opD1_some, RD_call, callQD_clo, RD_guard, gdD_tt, gdD_ff, gdD_tf, gdD_ft, gdD_un, psh_nil, psh_cons, Apt_nil, Apt_nilT, Apt_true, Apt_false, Dis_def, runT_val, runT_rd, runT_wr, runT_new, runT_mv, ex, put_some, put_none, ev_t, ev_c, argF_zero, argF_succ, set_g, set_n, cells_v, cells_sl, cells_agg, cells_own, cells_ptr, cells_clo, cells_eptr, cells_mp, putc, exBslice, lfill, exField, exIdxV, exIdxP, exBox, exAlloc, exLoad, exStore, exFieldA, exIdxA, exLen, exPick, exUn, exBeq, exMM, exSeq, seqGo, exExt, binV, intOp, subc, AV.solid, S0, encI, encB, e11, e10, e9, e1, e0, encIs, hlt, hlb, hq]
        exact FzK_I _ _
def beforeS (a b : List Int) : Bool := decide (orL [cmpI a.length b.length, cmpL a b] < 0)
theorem path_Before_body {P : Program} {f1 f2 f3 : FuncId} (a b : List Int) (h1 : ∀ x y, PureC P f1 [encI x, encI y] (encI (cmpI x y))) (h2 : PureC P f2 [encIs a, encIs b] (encI (cmpL a b)))
    (h3 : ∀ l, Len l → PureC P f3 [.sl true (l.map encI)] (encI (orL l))) : AW P (c_path_Before f1 f2 f3) (RetK [4] (FzK (encB (beforeS a b)))) (argF [encIs a, encIs b]) S0 := by
  simp [AW_seq, AW_reg, AW_regD, AW_block, AW_cond, AW_skip, AW_exit, AW_ret, AW_scp, condR_true, condR_false, AThen_normal, AThen_ret, AThen_exit, ABlock_normal, ABlock_ret, ABlock_exit, AScope_normal, AScope_ret, AScope_exit, RetK_ret, RetK_normal, retAV_one, retAV_two, retAV_three, retAV_nil, RG_nil, RG_op, RG_guard, gdR_tt, gdR_ff, gdR_tf, gdR_ft, gdR_un, RG_call, callQ_clo, contK_ap, opR_some, RD_nil, RD_op0, RD_op1, opD0_some, opD1_some, RD_call, callQD_clo, RD_guard, gdD_tt, gdD_ff, gdD_tf, gdD_ft, gdD_un, psh_nil, psh_cons, Apt_nil, Apt_nilT, Apt_true, Apt_false, Dis_def, runT_val, runT_rd, runT_wr, runT_new, runT_mv, ex, put_some, put_none, ev_t, ev_c, argF_zero, argF_succ, set_g, set_n, cells_v, cells_sl, cells_agg, cells_own, cells_ptr, cells_clo, cells_eptr, cells_mp, putc, exBslice, lfill, exField, exIdxV, exIdxP, exBox, exAlloc, exLoad, exStore, exFieldA, exIdxA, exLen, exPick, exUn, exBeq, exMM, exSeq, seqGo, exExt, binV, intOp, subc, AV.solid, S0, encI, encB, c_path_Before, encIs]
  refine CallR.pure (h1 a.length b.length) (cl_cons (closed_I _) (cl_cons (closed_I _) cl_nil)) (closed_I _) ?_
  simp [AW_seq, AW_reg, AW_regD, AW_block, AW_cond, AW_skip, AW_exit, AW_ret, AW_scp, condR_true, condR_false, AThen_normal, AThen_ret, AThen_exit, ABlock_normal, ABlock_ret, ABlock_exit, AScope_normal, AScope_ret, AScope_exit, RetK_ret, RetK_normal, retAV_one, retAV_two, retAV_three, retAV_nil, RG_nil, RG_op, RG_guard, gdR_tt, gdR_ff, gdR_tf, gdR_ft, gdR_un, RG_call, callQ_clo, contK_ap, opR_some, RD_nil, RD_op0, RD_op1, opD0_some, opD1_some, RD_call, callQD_clo, RD_guard, gdD_tt, gdD_ff, gdD_tf, gdD_ft, gdD_un, psh_nil, psh_cons, Apt_nil, Apt_nilT, Apt_true, Apt_false, Dis_def, runT_val, runT_rd, runT_wr, runT_new, runT_mv, ex, put_some, put_none, ev_t, ev_c, argF_zero, argF_succ, set_g, set_n, cells_v, cells_sl, cells_agg, cells_own, cells_ptr, cells_clo, cells_eptr, cells_mp, putc, exBslice, lfill, exField, exIdxV, exIdxP, exBox, exAlloc, exLoad, exStore, exFieldA, exIdxA, exLen, exPick, exUn, exBeq, exMM, exSeq, seqGo, exExt, binV, intOp, subc, AV.solid, S0, encI, encB]
  refine CallR.pure h2 (cl_cons (closed_Is _) (cl_cons (closed_Is _) cl_nil)) (closed_I _) ?_
  simp [AW_seq, AW_reg, AW_regD, AW_block, AW_cond, AW_skip, AW_exit, AW_ret, AW_scp, condR_true, condR_false, AThen_normal, AThen_ret, AThen_exit, ABlock_normal, ABlock_ret, ABlock_exit, AScope_normal, AScope_ret, AScope_exit, RetK_ret, RetK_normal, retAV_one, retAV_two, retAV_three, retAV_nil, RG_nil, RG_op, RG_guard, gdR_tt, gdR_ff, gdR_tf, gdR_ft, gdR_un, RG_call, callQ_clo, contK_ap, opR_some, RD_nil, RD_op0, RD_op1, opD0_some, opD1_some, RD_call, callQD_clo, RD_guard, gdD_tt, gdD_ff, gdD_tf, gdD_ft, gdD_un, psh_nil, psh_cons, Apt_nil, Apt_nilT, Apt_true, Apt_false, Dis_def, runT_val, runT_rd, runT_wr, runT_new, runT_mv, ex, put_some, put_none, ev_t, ev_c, argF_zero, argF_succ, set_g, set_n, cells_v, cells_sl, cells_agg, cells_own, cells_ptr, cells_clo, cells_eptr, cells_mp, putc, exBslice, lfill, exField, exIdxV, exIdxP, exBox, exAlloc, exLoad, exStore, exFieldA, exIdxA, exLen, exPick, exUn, exBeq, exMM, exSeq, seqGo, exExt, binV, intOp, subc, AV.solid, S0, encI, encB]
  refine CallR.pure (h3 [cmpI a.length b.length, cmpL a b] (by simp [Len])) (cl_cons (closed_map closed_I _) cl_nil) (closed_I _) ?_
  simp [AW_seq, AW_reg, AW_regD, AW_block, AW_cond, AW_skip, AW_exit, AW_ret, AW_scp, condR_true, condR_false, AThen_normal, AThen_ret, AThen_exit, ABlock_normal, ABlock_ret, ABlock_exit, AScope_normal, AScope_ret, AScope_exit, RetK_ret, RetK_normal, retAV_one, retAV_two, retAV_three, retAV_nil, RG_nil, RG_op, RG_guard, gdR_tt, gdR_ff, gdR_tf, gdR_ft, gdR_un, RG_call, callQ_clo, contK_ap, opR_some, RD_nil, RD_op0, RD_op1, opD0_some, opD1_some, RD_call, callQD_clo, RD_guard, gdD_tt, gdD_ff, gdD_tf, gdD_ft, gdD_un, psh_nil, psh_cons, Apt_nil, Apt_nilT, Apt_true, Apt_false, Dis_def, runT_val, runT_rd, runT_wr, runT_new, runT_mv, ex, put_some, put_none, ev_t, ev_c, argF_zero, argF_succ, set_g, set_n, cells_v, cells_sl, cells_agg, cells_own, cells_ptr, cells_clo, cells_eptr, cells_mp, putc, exBslice, lfill, exField, exIdxV, exIdxP, exBox, exAlloc, exLoad, exStore, exFieldA, exIdxA, exLen, exPick, exUn, exBeq, exMM, exSeq, seqGo, exExt, binV, intOp, subc, AV.solid, S0, encI, encB]
  exact FzK_B _ _
def befI (a b : List Int) (m : Nat) (f : AF) (S : St) : Prop :=
  ∃ i : Nat, i ≤ a.length ∧ m = a.length - i ∧ f 5 = encI i ∧ f 0 = encIs a ∧ f 1 = encIs b ∧ cmpL a b = cmpL (a.drop i) (b.drop i)
theorem before_len {a b : List Int} (h : a.length ≠ b.length) : beforeS a b = decide (a.length < b.length) := by
  unfold beforeS
  by_cases h1 : (a.length : Int) < b.length
  · have h2 : a.length < b.length := by omega
    simp [orL, cmpI, h1, h2]
  · have h2 : ¬ a.length < b.length := by omega
    have h3 : (b.length : Int) < a.length := by omega
    simp [orL, cmpI, h1, h2, h3]
theorem before_eq {a b : List Int} (h : a.length = b.length) : beforeS a b = decide (cmpL a b < 0) := by
  unfold beforeS
  have : cmpI a.length b.length = 0 := by simp [cmpI, h]
  by_cases hz : cmpL a b = 0 <;> simp [orL, this, hz]
theorem caesuraref18_Before_body (P : Program) (a b : List Int) (ha : Len a) (hb : Len b) : AW P c_caesuraref18_Before (RetK [4] (FzK (encB (beforeS a b)))) (argF [encIs a, encIs b]) S0 := by
  unfold Len at ha hb
  by_cases hl : a.length = b.length
  · have hc : ((a.length : Int) != b.length) = false := by simp [hl]
    rw [before_eq hl]
    simp [AW_seq, AW_reg, AW_regD, AW_block, AW_cond, AW_skip, AW_exit, AW_ret, AW_scp, condR_true, condR_false, AThen_normal, AThen_ret, AThen_exit, ABlock_normal, ABlock_ret, ABlock_exit, AScope_normal, AScope_ret, AScope_exit, RetK_ret, RetK_normal, retAV_one, retAV_two, retAV_three, retAV_nil, RG_nil, RG_op, RG_guard, gdR_tt, gdR_ff, gdR_tf, gdR_ft, gdR_un, RG_call, callQ_clo, contK_ap, opR_some, RD_nil, RD_op0, RD_op1, opD0_some, opD1_some, RD_call, callQD_clo, RD_guard, gdD_tt, gdD_ff, gdD_tf, gdD_ft, gdD_un, psh_nil, psh_cons, Apt_nil, Apt_nilT, Apt_true, Apt_false, Dis_def, runT_val, runT_rd, runT_wr, runT_new, runT_mv, ex, put_some, put_none, ev_t, ev_c, argF_zero, argF_succ, set_g, set_n, cells_v, cells_sl, cells_agg, cells_own, cells_ptr, cells_clo, cells_eptr, cells_mp, putc, exBslice, lfill, exField, exIdxV, exIdxP, exBox, exAlloc, exLoad, exStore, exFieldA, exIdxA, exLen, exPick, exUn, exBeq, exMM, exSeq, seqGo, exExt, binV, intOp, subc, AV.solid, S0, encI, encB, c_caesuraref18_Before, encIs, hc]
    refine AW_loop (befI a b) a.length ?_ ?_
    · refine ⟨0, by omega, by omega, ?_, ?_, ?_, by simp⟩ <;> simp [put_some, argF_zero, argF_succ, encI, encIs]
    · rintro m g S ⟨i, hi, rfl, e5, e0, e1, hq⟩
      by_cases hlt : i < a.length
      · have hlb : i < b.length := by omega
        rw [List.drop_eq_getElem_cons hlt, List.drop_eq_getElem_cons hlb, cmpL] at hq
        by_cases hz : a[i] = b[i]
        · rw [if_neg (by simp [cmpI, hz])] at hq
          have hc2 : (a[i] != b[i]) = false := by simp [hz]
          simp [AW_seq, AW_reg, AW_regD, AW_block, AW_cond, AW_skip, AW_exit, AW_ret, AW_scp, condR_true, condR_false, AThen_normal, AThen_ret, AThen_exit, ABlock_normal, ABlock_ret, ABlock_exit, AScope_normal, AScope_ret, AScope_exit, RetK_ret, RetK_normal, retAV_one, retAV_two, retAV_three, retAV_nil, RG_nil, RG_op, RG_guard, gdR_tt, gdR_ff, gdR_tf, gdR_ft, gdR_un, RG_call, callQ_clo, contK_ap, opR_some, RD_nil, RD_op0, RD_op1, opD0_some, opD1_some, RD_call, callQD_clo, RD_guard, gdD_tt, gdD_ff, gdD_tf, gdD_ft, gdD_un, psh_nil, psh_cons, Apt_nil, Apt_nilT, Apt_true, Apt_false, Dis_def, runT_val, runT_rd, runT_wr, runT_new, runT_mv, ex, put_some, put_none, ev_t, ev_c, argF_zero, argF_succ, set_g, set_n, cells_v, cells_sl, cells_agg, cells_own, cells_ptr, cells_clo, cells_eptr, cells_mp, putc, exBslice, lfill, exField, exIdxV, exIdxP, exBox, exAlloc, exLoad, exStore, exFieldA, exIdxA, exLen, exPick, exUn, exBeq, exMM, exSeq, seqGo, exExt, binV, intOp, subc, AV.solid, S0, encI, encB, e5, e0, e1, encIs, hlt, hlb, hc2]
          rw [wrap_in _ (by omega)]
          refine ⟨a.length - (i + 1), by omega, i + 1, by omega, rfl, ?_, ?_, ?_, hq⟩ <;> simp [put_some, e5, e0, e1, encI, encIs]
        · have hne : cmpI a[i] b[i] ≠ 0 := by unfold cmpI; split <;> (try split) <;> omega
          rw [if_pos hne] at hq
          have hc2 : (a[i] != b[i]) = true := by simp [hz]
          have hlast : decide (cmpL a b < 0) = decide (a[i] < b[i]) := by
            rw [hq]; unfold cmpI
            by_cases h1 : a[i] < b[i]
            · simp [h1]
            · by_cases h2 : b[i] < a[i] <;> simp [h1, h2]
          simp [AW_seq, AW_reg, AW_regD, AW_block, AW_cond, AW_skip, AW_exit, AW_ret, AW_scp, condR_true, condR_false, AThen_normal, AThen_ret, AThen_exit, ABlock_normal, ABlock_ret, ABlock_exit, AScope_normal, AScope_ret, AScope_exit, RetK_ret, RetK_normal, retAV_one, retAV_two, retAV_three, retAV_nil, RG_nil, RG_op, RG_guard, gdR_tt, gdR_ff, gdR_tf, gdR_ft, gdR_un, RG_call, callQ_clo, contK_ap, opR_some, RD_nil, RD_op0, RD_op1, opD0_some, opD1_some, RD_call, callQD_clo, RD_guard, gdD_tt, gdD_ff, gdD_tf, gdD_ft, gdD_un, psh_nil, psh_cons, Apt_nil, Apt_nilT, Apt_true, Apt_false, Dis_def, runT_val, runT_rd, runT_wr, runT_new, runT_mv, ex, put_some, put_none, ev_t, ev_c, argF_zero, argF_succ, set_g, set_n, cells_v, cells_sl, cells_agg, cells_own, cells_ptr, cells_clo, cells_eptr, cells_mp, putc, exBslice, lfill, exField, exIdxV, exIdxP, exBox, exAlloc, exLoad, exStore, exFieldA, exIdxA, exLen, exPick, exUn, exBeq, exMM, exSeq, seqGo, exExt, binV, intOp, subc, AV.solid, S0, encI, encB, e5, e0, e1, encIs, hlt, hlb, hc2, hlast]
          exact FzK_B _ _
      · rw [List.drop_of_length_le (l := a) (by omega), List.drop_of_length_le (l := b) (by omega), cmpL] at hq
        simp [AW_seq, AW_reg, AW_regD, AW_block, AW_cond, AW_skip, AW_exit, AW_ret, AW_scp, condR_true, condR_false, AThen_normal, AThen_ret, AThen_exit, ABlock_normal, ABlock_ret, ABlock_exit, AScope_normal, AScope_ret, AScope_exit, RetK_ret, RetK_normal, retAV_one, retAV_two, retAV_three, retAV_nil, RG_nil, RG_op, RG_guard, gdR_tt, gdR_ff, gdR_tf, gdR_ft, gdR_un, RG_call, callQ_clo, contK_ap, opR_some, RD_nil, RD_op0, RD_op1, opD0_some, opD1_some, RD_call, callQD_clo, RD_guard, gdD_tt, gdD_ff, gdD_tf, gdD_ft, gdD_un, psh_nil, psh_cons, Apt_nil, Apt_nilT, Apt_true, Apt_false, Dis_def, runT_val, runT_rd, runT_wr, runT_new, runT_mv, ex, put_some, put_none, ev_t, ev_c, argF_zero, argF_succ, set_g, set_n, cells_v, cells_sl, cells_agg, cells_own, cells_ptr, cells_clo, cells_eptr, cells_mp, putc, exBslice, lfill, exField, exIdxV, exIdxP, exBox, exAlloc, exLoad, exStore, exFieldA, exIdxA, exLen, exPick, exUn, exBeq, exMM, exSeq, seqGo, exExt, binV, intOp, subc, AV.solid, S0, encI, encB, e5, e0, e1, encIs, hlt, hq]
        exact FzK_B _ _
  · have hc : ((a.length : Int) != b.length) = true := by simp; omega
    rw [before_len hl]
    simp [AW_seq, AW_reg, AW_regD, AW_block, AW_cond, AW_skip, AW_exit, AW_ret, AW_scp, condR_true, condR_false, AThen_normal, AThen_ret, AThen_exit, ABlock_normal, ABlock_ret, ABlock_exit, AScope_normal, AScope_ret, AScope_exit, RetK_ret, RetK_normal, retAV_one, retAV_two, retAV_three, retAV_nil, RG_nil, RG_op, RG_guard, gdR_tt, gdR_ff, gdR_tf, gdR_ft, gdR_un, RG_call, callQ_clo, contK_ap, opR_some, RD_nil, RD_op0, RD_op1, opD0_some, opD1_some, RD_call, callQD_clo, RD_guard, gdD_tt, gdD_ff, gdD_tf, gdD_ft, gdD_un, psh_nil, psh_cons, Apt_nil, Apt_nilT, Apt_true, Apt_false, Dis_def, runT_val, runT_rd, runT_wr, runT_new, runT_mv, ex, put_some, put_none, ev_t, ev_c, argF_zero, argF_succ, set_g, set_n, cells_v, cells_sl, cells_agg, cells_own, cells_ptr, cells_clo, cells_eptr, cells_mp, putc, exBslice, lfill, exField, exIdxV, exIdxP, exBox, exAlloc, exLoad, exStore, exFieldA, exIdxA, exLen, exPick, exUn, exBeq, exMM, exSeq, seqGo, exExt, binV, intOp, subc, AV.solid, S0, encI, encB, c_caesuraref18_Before, encIs, hc]
    exact FzK_B _ _
end Go.Rf
