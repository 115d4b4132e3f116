import Derived.Test.YtgmbloldekkieaaRfUse
set_option linter.unusedVariables false
set_option linter.unusedSimpArgs false
namespace Go.Rf
/-- caesura/caesuraref15.Right -/
def c_caesuraref15_Right : AC :=
  (.seq (.reg none [
   ⟨(some 1), .box 3 (.t 0), none, none⟩,
   ⟨(some 2), .mv (.c (.v (.bool false))), none, none⟩])
  (.seq (.reg none [
   ⟨(some 6), .fieldA 1 (.t 1), none, none⟩,
   ⟨(some 7), .load none (.t 6), none, none⟩,
   ⟨(some 8), .len (.t 7), none, none⟩,
   ⟨(some 3), .mv (.t 8), none, none⟩])
  (.seq (.seq (.reg none [
   ⟨(some 9), .fieldA 0 (.t 1), none, none⟩,
   ⟨(some 10), .load none (.t 9), none, none⟩,
   ⟨(some 11), .bin .lss (.t 10) (.c (.v (.int .i64 1))), none, none⟩,
   ⟨(some 12), .mv (.t 11), none, none⟩,
   ⟨(some 13), .fieldA 0 (.t 1), (some (12, false)), none⟩,
   ⟨(some 14), .load none (.t 13), (some (12, false)), none⟩,
   ⟨(some 15), .bin .gtr (.t 14) (.c (.v (.int .i64 400))), (some (12, false)), none⟩,
   ⟨(some 16), .pick (.t 12) (.c (.v (.bool true))) (.t 15), none, none⟩,
   ⟨(some 17), .mv (.t 16), none, none⟩,
   ⟨(some 18), .mv (.t 3), (some (17, false)), none⟩,
   ⟨(some 19), .bin .lss (.t 18) (.c (.v (.int .i64 1))), (some (17, false)), none⟩,
   ⟨(some 20), .pick (.t 17) (.c (.v (.bool true))) (.t 19), none, none⟩,
   ⟨(some 21), .mv (.t 20), none, none⟩,
   ⟨(some 22), .mv (.t 3), (some (21, false)), none⟩,
   ⟨(some 23), .bin .gtr (.t 22) (.c (.v (.int .i64 3000))), (some (21, false)), none⟩,
   ⟨(some 24), .pick (.t 21) (.c (.v (.bool true))) (.t 23), none, none⟩,
   ⟨(some 25), .mv (.t 24), none, none⟩,
   ⟨(some 26), .fieldA 2 (.t 1), (some (25, false)), none⟩,
   ⟨(some 27), .load none (.t 26), (some (25, false)), none⟩,
   ⟨(some 28), .len (.t 27), (some (25, false)), none⟩,
   ⟨(some 29), .mv (.t 3), (some (25, false)), none⟩,
   ⟨(some 30), .bin .neq (.t 28) (.t 29), (some (25, false)), none⟩,
   ⟨(some 31), .pick (.t 25) (.c (.v (.bool true))) (.t 30), none, none⟩])
  (.cond (.t 31) (.seq (.reg none [
    ⟨(some 2), .mv (.c (.v (.bool false))), none, none⟩])
   .ret) .skip))
  (.seq (.seq (.reg none [
   ⟨(some 4), .mv (.c (.v (.int .i64 0))), none, none⟩])
  (.block 0 (.loop (.seq (.seq (.reg none [
     ⟨(some 32), .mv (.t 4), none, none⟩,
     ⟨(some 33), .mv (.t 3), none, none⟩,
     ⟨(some 34), .bin .lss (.t 32) (.t 33), none, none⟩])
    (.cond (.t 34) .skip (.exit 0)))
    (.seq (.block 1 (.seq (.seq (.reg (some []) [
      ⟨(some 37), .fieldA 1 (.t 1), none, none⟩,
      ⟨(some 38), .load none (.t 37), none, none⟩,
      ⟨(some 39), .mv (.t 4), none, none⟩,
      ⟨(some 40), .idxA 1 (.t 38) (.t 39), none, none⟩,
      ⟨(some 41), .load none (.t 40), none, none⟩,
      ⟨(some 42), .len (.t 41), none, none⟩,
      ⟨(some 43), .fieldA 0 (.t 1), none, none⟩,
      ⟨(some 44), .load none (.t 43), none, none⟩,
      ⟨(some 45), .bin .neq (.t 42) (.t 44), none, none⟩])
     (.cond (.t 45) (.seq (.reg none [
       ⟨(some 2), .mv (.c (.v (.bool false))), none, none⟩])
      .ret) .skip))
     (.seq (.reg none [
      ⟨(some 5), .mv (.c (.v (.int .i64 0))), none, none⟩])
     (.block 2 (.loop (.seq (.seq (.reg none [
        ⟨(some 46), .mv (.t 5), none, none⟩,
        ⟨(some 47), .fieldA 0 (.t 1), none, none⟩,
        ⟨(some 48), .load none (.t 47), none, none⟩,
        ⟨(some 49), .bin .lss (.t 46) (.t 48), none, none⟩])
       (.cond (.t 49) .skip (.exit 2)))
       (.seq (.block 3 (.seq (.reg none [
         ⟨(some 52), .fieldA 1 (.t 1), none, none⟩,
         ⟨(some 53), .load none (.t 52), none, none⟩,
         ⟨(some 54), .mv (.t 4), none, none⟩,
         ⟨(some 55), .idxA 1 (.t 53) (.t 54), none, none⟩,
         ⟨(some 56), .load none (.t 55), none, none⟩,
         ⟨(some 57), .mv (.t 5), none, none⟩,
         ⟨(some 58), .idxA 1 (.t 56) (.t 57), none, none⟩,
         ⟨(some 59), .load none (.t 58), none, none⟩,
         ⟨(some 60), .bin .lss (.t 59) (.c (.v (.int .i64 0))), none, none⟩,
         ⟨(some 61), .mv (.t 60), none, none⟩,
         ⟨(some 62), .fieldA 1 (.t 1), (some (61, false)), none⟩,
         ⟨(some 63), .load none (.t 62), (some (61, false)), none⟩,
         ⟨(some 64), .mv (.t 4), (some (61, false)), none⟩,
         ⟨(some 65), .idxA 1 (.t 63) (.t 64), (some (61, false)), none⟩,
         ⟨(some 66), .load none (.t 65), (some (61, false)), none⟩,
         ⟨(some 67), .mv (.t 5), (some (61, false)), none⟩,
         ⟨(some 68), .idxA 1 (.t 66) (.t 67), (some (61, false)), none⟩,
         ⟨(some 69), .load none (.t 68), (some (61, false)), none⟩,
         ⟨(some 70), .mv (.t 3), (some (61, false)), none⟩,
         ⟨(some 71), .bin .geq (.t 69) (.t 70), (some (61, false)), none⟩,
         ⟨(some 72), .pick (.t 61) (.c (.v (.bool true))) (.t 71), none, none⟩])
        (.cond (.t 72) (.seq (.reg none [
          ⟨(some 2), .mv (.c (.v (.bool false))), none, none⟩])
         .ret) .skip)))
       (.reg none [
        ⟨(some 50), .mv (.t 5), none, none⟩,
        ⟨(some 51), .bin .add (.t 50) (.c (.v (.int .i64 1))), none, none⟩,
        ⟨(some 5), .mv (.t 51), none, none⟩]))))))))
    (.reg none [
     ⟨(some 35), .mv (.t 4), none, none⟩,
     ⟨(some 36), .bin .add (.t 35) (.c (.v (.int .i64 1))), none, none⟩,
     ⟨(some 4), .mv (.t 36), none, none⟩]))))))
  (.seq (.reg none [
   ⟨(some 2), .mv (.c (.v (.bool true))), none, none⟩])
  .ret)))))

def rightI (d : Det) (m : Nat) (f : AF) (S : St) : Prop :=
  ∃ i : Nat, i ≤ d.next.length ∧ m = d.next.length - i ∧ f 4 = encI i ∧ f 3 = encI d.next.length ∧ f 1 = .ptr 0 0 0 ∧ S.g 0 = some (.arr 3 [encDet d]) ∧ (d.next.take i).all (rowOk d) = true
def rightJ (d : Det) (i : Nat) (r : List Int) (m : Nat) (f : AF) (S : St) : Prop :=
  ∃ j : Nat, j ≤ r.length ∧ m = r.length - j ∧ f 5 = encI j ∧ f 4 = encI i ∧ f 3 = encI d.next.length ∧ f 1 = .ptr 0 0 0 ∧ S.g 0 = some (.arr 3 [encDet d]) ∧ (r.take j).all (fun t => decide (0 ≤ t) && decide (t < d.next.length)) = true
theorem caesuraref15_Right_body (P : Program) (d : Det) (ok : DetOk d) : AW P c_caesuraref15_Right (RetK [2] (FzK (encB (rightD d)))) (argF [encDet d]) S0 := by
  have k1 := ok.next
  have k2 := ok.fin
  have k3 := ok.signs
  unfold Len at k1 k2
  by_cases h1 : d.signs < 1
  · have hr : rightD d = false := by simp [rightD]; omega
    simp [AW_seq, AW_reg, AW_regD, AW_block, AW_cond, AW_skip, AW_exit, AW_ret, AW_scp, condR_true, condR_false, AThen_normal, AThen_ret, AThen_exit, ABlock_normal, ABlock_ret, ABlock_exit, AScope_normal, AScope_ret, AScope_exit, RetK_ret, RetK_normal, retAV_one, retAV_two, retAV_three, retAV_nil, RG_nil, RG_op, RG_guard, gdR_tt, gdR_ff, gdR_tf, gdR_ft, gdR_un, RG_call, callQ_clo, contK_ap, opR_some, RD_nil, RD_op0, RD_op1, opD0_some, opD1_some, RD_call, callQD_clo, RD_guard, gdD_tt, gdD_ff, gdD_tf, gdD_ft, gdD_un, psh_nil, psh_cons, Apt_nil, Apt_nilT, Apt_true, Apt_false, Dis_def, runT_val, runT_rd, runT_wr, runT_new, runT_mv, ex, put_some, put_none, ev_t, ev_c, argF_zero, argF_succ, set_g, set_n, cells_v, cells_sl, cells_agg, cells_own, cells_ptr, cells_clo, cells_eptr, cells_mp, putc, exBslice, lfill, exField, exIdxV, exIdxP, exBox, exAlloc, exLoad, exStore, exFieldA, exIdxA, exLen, exPick, exUn, exBeq, exMM, exSeq, seqGo, exExt, binV, intOp, subc, AV.solid, S0, encI, encB, c_caesuraref15_Right, encDet, encIss, encBs, h1, hr]
    exact FzK_B false _
  by_cases h2 : 400 < d.signs
  · have hr : rightD d = false := by simp [rightD]; omega
    simp [AW_seq, AW_reg, AW_regD, AW_block, AW_cond, AW_skip, AW_exit, AW_ret, AW_scp, condR_true, condR_false, AThen_normal, AThen_ret, AThen_exit, ABlock_normal, ABlock_ret, ABlock_exit, AScope_normal, AScope_ret, AScope_exit, RetK_ret, RetK_normal, retAV_one, retAV_two, retAV_three, retAV_nil, RG_nil, RG_op, RG_guard, gdR_tt, gdR_ff, gdR_tf, gdR_ft, gdR_un, RG_call, callQ_clo, contK_ap, opR_some, RD_nil, RD_op0, RD_op1, opD0_some, opD1_some, RD_call, callQD_clo, RD_guard, gdD_tt, gdD_ff, gdD_tf, gdD_ft, gdD_un, psh_nil, psh_cons, Apt_nil, Apt_nilT, Apt_true, Apt_false, Dis_def, runT_val, runT_rd, runT_wr, runT_new, runT_mv, ex, put_some, put_none, ev_t, ev_c, argF_zero, argF_succ, set_g, set_n, cells_v, cells_sl, cells_agg, cells_own, cells_ptr, cells_clo, cells_eptr, cells_mp, putc, exBslice, lfill, exField, exIdxV, exIdxP, exBox, exAlloc, exLoad, exStore, exFieldA, exIdxA, exLen, exPick, exUn, exBeq, exMM, exSeq, seqGo, exExt, binV, intOp, subc, AV.solid, S0, encI, encB, c_caesuraref15_Right, encDet, encIss, encBs, h1, h2, hr]
    exact FzK_B false _
  by_cases h3 : (d.next.length : Int) < 1
  · have hr : rightD d = false := by simp [rightD]; omega
    simp [AW_seq, AW_reg, AW_regD, AW_block, AW_cond, AW_skip, AW_exit, AW_ret, AW_scp, condR_true, condR_false, AThen_normal, AThen_ret, AThen_exit, ABlock_normal, ABlock_ret, ABlock_exit, AScope_normal, AScope_ret, AScope_exit, RetK_ret, RetK_normal, retAV_one, retAV_two, retAV_three, retAV_nil, RG_nil, RG_op, RG_guard, gdR_tt, gdR_ff, gdR_tf, gdR_ft, gdR_un, RG_call, callQ_clo, contK_ap, opR_some, RD_nil, RD_op0, RD_op1, opD0_some, opD1_some, RD_call, callQD_clo, RD_guard, gdD_tt, gdD_ff, gdD_tf, gdD_ft, gdD_un, psh_nil, psh_cons, Apt_nil, Apt_nilT, Apt_true, Apt_false, Dis_def, runT_val, runT_rd, runT_wr, runT_new, runT_mv, ex, put_some, put_none, ev_t, ev_c, argF_zero, argF_succ, set_g, set_n, cells_v, cells_sl, cells_agg, cells_own, cells_ptr, cells_clo, cells_eptr, cells_mp, putc, exBslice, lfill, exField, exIdxV, exIdxP, exBox, exAlloc, exLoad, exStore, exFieldA, exIdxA, exLen, exPick, exUn, exBeq, exMM, exSeq, seqGo, exExt, binV, intOp, subc, AV.solid, S0, encI, encB, c_caesuraref15_Right, encDet, encIss, encBs, h1, h2, h3, hr]
    exact FzK_B false _
  by_cases h4 : (3000 : Int) < d.next.length
  · have hr : rightD d = false := by simp [rightD]; omega
    simp [AW_seq, AW_reg, AW_regD, AW_block, AW_cond, AW_skip, AW_exit, AW_ret, AW_scp, condR_true, condR_false, AThen_normal, AThen_ret, AThen_exit, ABlock_normal, ABlock_ret, ABlock_exit, AScope_normal, AScope_ret, AScope_exit, RetK_ret, RetK_normal, retAV_one, retAV_two, retAV_three, retAV_nil, RG_nil, RG_op, RG_guard, gdR_tt, gdR_ff, gdR_tf, gdR_ft, gdR_un, RG_call, callQ_clo, contK_ap, opR_some, RD_nil, RD_op0, RD_op1, opD0_some, opD1_some, RD_call, callQD_clo, RD_guard, gdD_tt, gdD_ff, gdD_tf, gdD_ft, gdD_un, psh_nil, psh_cons, Apt_nil, Apt_nilT, Apt_true, Apt_false, Dis_def, runT_val, runT_rd, runT_wr, runT_new, runT_mv, ex, put_some, put_none, ev_t, ev_c, argF_zero, argF_succ, set_g, set_n, cells_v, cells_sl, cells_agg, cells_own, cells_ptr, cells_clo, cells_eptr, cells_mp, putc, exBslice, lfill, exField, exIdxV, exIdxP, exBox, exAlloc, exLoad, exStore, exFieldA, exIdxA, exLen, exPick, exUn, exBeq, exMM, exSeq, seqGo, exExt, binV, intOp, subc, AV.solid, S0, encI, encB, c_caesuraref15_Right, encDet, encIss, encBs, h1, h2, h3, h4, hr]
    exact FzK_B false _
  by_cases h5 : d.fin.length = d.next.length
  · have hc : ((d.fin.length : Int) != d.next.length) = false := by simp [h5]
    simp [AW_seq, AW_reg, AW_regD, AW_block, AW_cond, AW_skip, AW_exit, AW_ret, AW_scp, condR_true, condR_false, AThen_normal, AThen_ret, AThen_exit, ABlock_normal, ABlock_ret, ABlock_exit, AScope_normal, AScope_ret, AScope_exit, RetK_ret, RetK_normal, retAV_one, retAV_two, retAV_three, retAV_nil, RG_nil, RG_op, RG_guard, gdR_tt, gdR_ff, gdR_tf, gdR_ft, gdR_un, RG_call, callQ_clo, contK_ap, opR_some, RD_nil, RD_op0, RD_op1, opD0_some, opD1_some, RD_call, callQD_clo, RD_guard, gdD_tt, gdD_ff, gdD_tf, gdD_ft, gdD_un, psh_nil, psh_cons, Apt_nil, Apt_nilT, Apt_true, Apt_false, Dis_def, runT_val, runT_rd, runT_wr, runT_new, runT_mv, ex, put_some, put_none, ev_t, ev_c, argF_zero, argF_succ, set_g, set_n, cells_v, cells_sl, cells_agg, cells_own, cells_ptr, cells_clo, cells_eptr, cells_mp, putc, exBslice, lfill, exField, exIdxV, exIdxP, exBox, exAlloc, exLoad, exStore, exFieldA, exIdxA, exLen, exPick, exUn, exBeq, exMM, exSeq, seqGo, exExt, binV, intOp, subc, AV.solid, S0, encI, encB, c_caesuraref15_Right, encDet, encIss, encBs, h1, h2, h3, h4, hc]
    refine AW_loop (rightI d) d.next.length ?_ ?_
    · refine ⟨0, by omega, by omega, ?_, ?_, ?_, ?_, ?_⟩ <;> simp [put_some, argF_zero, argF_succ, encI, encDet, encIss, encBs, set_g]
    · rintro m f S ⟨i, hi, rfl, e4, e3, e1, eg, hp⟩
      by_cases hlt : i < d.next.length
      · have kr := ok.rows _ (List.getElem_mem hlt)
        unfold Len at kr
        have hri : rowOk d d.next[i] = false → rightD d = false := by
          intro h
          simp only [rightD]
          have : d.next.all (rowOk d) = false := by
            rw [List.all_eq_false]; exact ⟨_, List.getElem_mem hlt, by simp [h]⟩
          simp [this]
        by_cases hrl : ((d.next[i]).length : Int) = d.signs
        · have hc1 : (((d.next[i]).length : Int) != d.signs) = false := by simp [hrl]
          simp [AW_seq, AW_reg, AW_regD, AW_block, AW_cond, AW_skip, AW_exit, AW_ret, AW_scp, condR_true, condR_false, AThen_normal, AThen_ret, AThen_exit, ABlock_normal, ABlock_ret, ABlock_exit, AScope_normal, AScope_ret, AScope_exit, RetK_ret, RetK_normal, retAV_one, retAV_two, retAV_three, retAV_nil, RG_nil, RG_op, RG_guard, gdR_tt, gdR_ff, gdR_tf, gdR_ft, gdR_un, RG_call, callQ_clo, contK_ap, opR_some, RD_nil, RD_op0, RD_op1, opD0_some, opD1_some, RD_call, callQD_clo, RD_guard, gdD_tt, gdD_ff, gdD_tf, gdD_ft, gdD_un, psh_nil, psh_cons, Apt_nil, Apt_nilT, Apt_true, Apt_false, Dis_def, runT_val, runT_rd, runT_wr, runT_new, runT_mv, ex, put_some, put_none, ev_t, ev_c, argF_zero, argF_succ, set_g, set_n, cells_v, cells_sl, cells_agg, cells_own, cells_ptr, cells_clo, cells_eptr, cells_mp, putc, exBslice, lfill, exField, exIdxV, exIdxP, exBox, exAlloc, exLoad, exStore, exFieldA, exIdxA, exLen, exPick, exUn, exBeq, exMM, exSeq, seqGo, exExt, binV, intOp, subc, AV.solid, S0, encI, encB, e4, e3, e1, eg, encDet, encIss, encBs, encIs, hlt, hc1]
          refine AW_loop (rightJ d i d.next[i]) (d.next[i]).length ?_ ?_
          · refine ⟨0, by omega, by omega, ?_, ?_, ?_, ?_, ?_, ?_⟩ <;> simp [put_some, e4, e3, e1, eg, encI, encDet, encIss, encBs, encIs]
          · rintro m f S ⟨j, hj, rfl, e5, e4, e3, e1, eg, hq⟩
            by_cases hjl : j < (d.next[i]).length
            · have hjs : (j : Int) < d.signs := by omega
              have hrow : ¬ (0 ≤ (d.next[i])[j] ∧ (d.next[i])[j] < d.next.length) → rowOk d d.next[i] = false := by
                intro h
                have : (d.next[i]).all (fun t => decide (0 ≤ t) && decide (t < d.next.length)) = false := by
                  rw [List.all_eq_false]; refine ⟨_, List.getElem_mem hjl, ?_⟩
                  simp only [Bool.and_eq_true, decide_eq_true_eq]; exact h
                simp [rowOk, this]
              by_cases hn : (d.next[i])[j] < 0
              · have hr := hri (hrow (by omega))
                simp [AW_seq, AW_reg, AW_regD, AW_block, AW_cond, AW_skip, AW_exit, AW_ret, AW_scp, condR_true, condR_false, AThen_normal, AThen_ret, AThen_exit, ABlock_normal, ABlock_ret, ABlock_exit, AScope_normal, AScope_ret, AScope_exit, RetK_ret, RetK_normal, retAV_one, retAV_two, retAV_three, retAV_nil, RG_nil, RG_op, RG_guard, gdR_tt, gdR_ff, gdR_tf, gdR_ft, gdR_un, RG_call, callQ_clo, contK_ap, opR_some, RD_nil, RD_op0, RD_op1, opD0_some, opD1_some, RD_call, callQD_clo, RD_guard, gdD_tt, gdD_ff, gdD_tf, gdD_ft, gdD_un, psh_nil, psh_cons, Apt_nil, Apt_nilT, Apt_true, Apt_false, Dis_def, runT_val, runT_rd, runT_wr, runT_new, runT_mv, ex, put_some, put_none, ev_t, ev_c, argF_zero, argF_succ, set_g, set_n, cells_v, cells_sl, cells_agg, cells_own, cells_ptr, cells_clo, cells_eptr, cells_mp, putc, exBslice, lfill, exField, exIdxV, exIdxP, exBox, exAlloc, exLoad, exStore, exFieldA, exIdxA, exLen, exPick, exUn, exBeq, exMM, exSeq, seqGo, exExt, binV, intOp, subc, AV.solid, S0, encI, encB, e5, e4, e3, e1, eg, encDet, encIss, encBs, encIs, hlt, hjl, hjs, hn, hr]
                exact FzK_B false _
              by_cases hg : (d.next.length : Int) ≤ (d.next[i])[j]
              · have hr := hri (hrow (by omega))
                simp [AW_seq, AW_reg, AW_regD, AW_block, AW_cond, AW_skip, AW_exit, AW_ret, AW_scp, condR_true, condR_false, AThen_normal, AThen_ret, AThen_exit, ABlock_normal, ABlock_ret, ABlock_exit, AScope_normal, AScope_ret, AScope_exit, RetK_ret, RetK_normal, retAV_one, retAV_two, retAV_three, retAV_nil, RG_nil, RG_op, RG_guard, gdR_tt, gdR_ff, gdR_tf, gdR_ft, gdR_un, RG_call, callQ_clo, contK_ap, opR_some, RD_nil, RD_op0, RD_op1, opD0_some, opD1_some, RD_call, callQD_clo, RD_guard, gdD_tt, gdD_ff, gdD_tf, gdD_ft, gdD_un, psh_nil, psh_cons, Apt_nil, Apt_nilT, Apt_true, Apt_false, Dis_def, runT_val, runT_rd, runT_wr, runT_new, runT_mv, ex, put_some, put_none, ev_t, ev_c, argF_zero, argF_succ, set_g, set_n, cells_v, cells_sl, cells_agg, cells_own, cells_ptr, cells_clo, cells_eptr, cells_mp, putc, exBslice, lfill, exField, exIdxV, exIdxP, exBox, exAlloc, exLoad, exStore, exFieldA, exIdxA, exLen, exPick, exUn, exBeq, exMM, exSeq, seqGo, exExt, binV, intOp, subc, AV.solid, S0, encI, encB, e5, e4, e3, e1, eg, encDet, encIss, encBs, encIs, hlt, hjl, hjs, hn, hg, hr]
                exact FzK_B false _
              simp [AW_seq, AW_reg, AW_regD, AW_block, AW_cond, AW_skip, AW_exit, AW_ret, AW_scp, condR_true, condR_false, AThen_normal, AThen_ret, AThen_exit, ABlock_normal, ABlock_ret, ABlock_exit, AScope_normal, AScope_ret, AScope_exit, RetK_ret, RetK_normal, retAV_one, retAV_two, retAV_three, retAV_nil, RG_nil, RG_op, RG_guard, gdR_tt, gdR_ff, gdR_tf, gdR_ft, gdR_un, RG_call, callQ_clo, contK_ap, opR_some, RD_nil, RD_op0, RD_op1, opD0_some, opD1_some, RD_call, callQD_clo, RD_guard, gdD_tt, gdD_ff, gdD_tf, gdD_ft, gdD_un, psh_nil, psh_cons, Apt_nil, Apt_nilT, Apt_true, Apt_false, Dis_def, runT_val, runT_rd, runT_wr, runT_new, runT_mv, ex, put_some, put_none, ev_t, ev_c, argF_zero, argF_succ, set_g, set_n, cells_v, cells_sl, cells_agg, cells_own, cells_ptr, cells_clo, cells_eptr, cells_mp, putc, exBslice, lfill, exField, exIdxV, exIdxP, exBox, exAlloc, exLoad, exStore, exFieldA, exIdxA, exLen, exPick, exUn, exBeq, exMM, exSeq, seqGo, exExt, binV, intOp, subc, AV.solid, S0, encI, encB, e5, e4, e3, e1, eg, encDet, encIss, encBs, encIs, hlt, hjl, hjs, hn, hg]
              rw [wrap_in _ (by omega)]
              refine ⟨(d.next[i]).length - (j + 1), by omega, j + 1, by omega, rfl, ?_, ?_, ?_, ?_, ?_, by rw [all_take_succ _ _ _ hjl, hq]; simp; omega⟩ <;> simp [put_some, e5, e4, e3, e1, eg, encI, encDet, encIss, encBs, encIs]
            · have hjs : ¬ (j : Int) < d.signs := by omega
              simp [AW_seq, AW_reg, AW_regD, AW_block, AW_cond, AW_skip, AW_exit, AW_ret, AW_scp, condR_true, condR_false, AThen_normal, AThen_ret, AThen_exit, ABlock_normal, ABlock_ret, ABlock_exit, AScope_normal, AScope_ret, AScope_exit, RetK_ret, RetK_normal, retAV_one, retAV_two, retAV_three, retAV_nil, RG_nil, RG_op, RG_guard, gdR_tt, gdR_ff, gdR_tf, gdR_ft, gdR_un, RG_call, callQ_clo, contK_ap, opR_some, RD_nil, RD_op0, RD_op1, opD0_some, opD1_some, RD_call, callQD_clo, RD_guard, gdD_tt, gdD_ff, gdD_tf, gdD_ft, gdD_un, psh_nil, psh_cons, Apt_nil, Apt_nilT, Apt_true, Apt_false, Dis_def, runT_val, runT_rd, runT_wr, runT_new, runT_mv, ex, put_some, put_none, ev_t, ev_c, argF_zero, argF_succ, set_g, set_n, cells_v, cells_sl, cells_agg, cells_own, cells_ptr, cells_clo, cells_eptr, cells_mp, putc, exBslice, lfill, exField, exIdxV, exIdxP, exBox, exAlloc, exLoad, exStore, exFieldA, exIdxA, exLen, exPick, exUn, exBeq, exMM, exSeq, seqGo, exExt, binV, intOp, subc, AV.solid, S0, encI, encB, e5, e4, e3, e1, eg, encDet, encIss, encBs, encIs, hjs]
              rw [wrap_in _ (by omega)]
              rw [List.take_of_length_le (by omega)] at hq
              refine ⟨d.next.length - (i + 1), by omega, i + 1, by omega, rfl, ?_, ?_, ?_, ?_, by rw [all_take_succ _ _ _ hlt, hp, rowOk, hq]; simp [hrl]⟩ <;> simp [put_some, e5, e4, e3, e1, eg, encI, encDet, encIss, encBs, encIs]
        · have hr := hri (by simp [rowOk, hrl])
          have hc1 : (((d.next[i]).length : Int) != d.signs) = true := by simp [hrl]
          simp [AW_seq, AW_reg, AW_regD, AW_block, AW_cond, AW_skip, AW_exit, AW_ret, AW_scp, condR_true, condR_false, AThen_normal, AThen_ret, AThen_exit, ABlock_normal, ABlock_ret, ABlock_exit, AScope_normal, AScope_ret, AScope_exit, RetK_ret, RetK_normal, retAV_one, retAV_two, retAV_three, retAV_nil, RG_nil, RG_op, RG_guard, gdR_tt, gdR_ff, gdR_tf, gdR_ft, gdR_un, RG_call, callQ_clo, contK_ap, opR_some, RD_nil, RD_op0, RD_op1, opD0_some, opD1_some, RD_call, callQD_clo, RD_guard, gdD_tt, gdD_ff, gdD_tf, gdD_ft, gdD_un, psh_nil, psh_cons, Apt_nil, Apt_nilT, Apt_true, Apt_false, Dis_def, runT_val, runT_rd, runT_wr, runT_new, runT_mv, ex, put_some, put_none, ev_t, ev_c, argF_zero, argF_succ, set_g, set_n, cells_v, cells_sl, cells_agg, cells_own, cells_ptr, cells_clo, cells_eptr, cells_mp, putc, exBslice, lfill, exField, exIdxV, exIdxP, exBox, exAlloc, exLoad, exStore, exFieldA, exIdxA, exLen, exPick, exUn, exBeq, exMM, exSeq, seqGo, exExt, binV, intOp, subc, AV.solid, S0, encI, encB, e4, e3, e1, eg, encDet, encIss, encBs, encIs, hlt, hc1, hr]
          exact FzK_B false _
      · have hr : rightD d = true := by
          rw [List.take_of_length_le (by omega)] at hp
          simp [rightD, hp]; omega
        simp [AW_seq, AW_reg, AW_regD, AW_block, AW_cond, AW_skip, AW_exit, AW_ret, AW_scp, condR_true, condR_false, AThen_normal, AThen_ret, AThen_exit, ABlock_normal, ABlock_ret, ABlock_exit, AScope_normal, AScope_ret, AScope_exit, RetK_ret, RetK_normal, retAV_one, retAV_two, retAV_three, retAV_nil, RG_nil, RG_op, RG_guard, gdR_tt, gdR_ff, gdR_tf, gdR_ft, gdR_un, RG_call, callQ_clo, contK_ap, opR_some, RD_nil, RD_op0, RD_op1, opD0_some, opD1_some, RD_call, callQD_clo, RD_guard, gdD_tt, gdD_ff, gdD_tf, gdD_ft, gdD_un, psh_nil, psh_cons, Apt_nil, Apt_nilT, Apt_true, Apt_false, Dis_def, runT_val, runT_rd, runT_wr, runT_new, runT_mv, ex, put_some, put_none, ev_t, ev_c, argF_zero, argF_succ, set_g, set_n, cells_v, cells_sl, cells_agg, cells_own, cells_ptr, cells_clo, cells_eptr, cells_mp, putc, exBslice, lfill, exField, exIdxV, exIdxP, exBox, exAlloc, exLoad, exStore, exFieldA, exIdxA, exLen, exPick, exUn, exBeq, exMM, exSeq, seqGo, exExt, binV, intOp, subc, AV.solid, S0, encI, encB, e4, e3, e1, eg, encDet, encIss, encBs, encIs, hlt, hr]
        exact FzK_B true _
  · have hr : rightD d = false := by simp [rightD]; omega
    have hc : ((d.fin.length : Int) != d.next.length) = true := by simp; omega
    simp [AW_seq, AW_reg, AW_regD, AW_block, AW_cond, AW_skip, AW_exit, AW_ret, AW_scp, condR_true, condR_false, AThen_normal, AThen_ret, AThen_exit, ABlock_normal, ABlock_ret, ABlock_exit, AScope_normal, AScope_ret, AScope_exit, RetK_ret, RetK_normal, retAV_one, retAV_two, retAV_three, retAV_nil, RG_nil, RG_op, RG_guard, gdR_tt, gdR_ff, gdR_tf, gdR_ft, gdR_un, RG_call, callQ_clo, contK_ap, opR_some, RD_nil, RD_op0, RD_op1, opD0_some, opD1_some, RD_call, callQD_clo, RD_guard, gdD_tt, gdD_ff, gdD_tf, gdD_ft, gdD_un, psh_nil, psh_cons, Apt_nil, Apt_nilT, Apt_true, Apt_false, Dis_def, runT_val, runT_rd, runT_wr, runT_new, runT_mv, ex, put_some, put_none, ev_t, ev_c, argF_zero, argF_succ, set_g, set_n, cells_v, cells_sl, cells_agg, cells_own, cells_ptr, cells_clo, cells_eptr, cells_mp, putc, exBslice, lfill, exField, exIdxV, exIdxP, exBox, exAlloc, exLoad, exStore, exFieldA, exIdxA, exLen, exPick, exUn, exBeq, exMM, exSeq, seqGo, exExt, binV, intOp, subc, AV.solid, S0, encI, encB, c_caesuraref15_Right, encDet, encIss, encBs, h1, h2, h3, h4, hc, hr]
    exact FzK_B false _
end Go.Rf
