import Derived.Test.YtpinfihfbjkijaaDoorRfF1
/- Own work: DetAnswers. -/
set_option linter.unusedVariables false
set_option linter.unusedSimpArgs false
namespace Go.Rf
open Go.RowKit

def c_caesuralaw15_DetAnswers (f_caesuralaw15_alive f_caesuraref15_Great f_det_Right f_caesuraref15_Right f_det_Run f_caesuraref15_Run f_det_Accepts f_caesuraref15_Accepts f_det_Same f_caesuraref15_Same : FuncId) : AC :=
  (.seq (.reg none [
   ⟨(some 3), .box 3 (.t 0), none, none⟩,
   ⟨(some 4), .box 3 (.t 1), none, none⟩,
   ⟨(some 6), .mv (.c (.v (.bool false))), none, none⟩])
  (.seq (.seq (.reg none [
   ⟨(some 7), .mv (.c .junk), none, (some ((.c (.clo f_caesuralaw15_alive [] [])), []))⟩,
   ⟨(some 8), .un .not (.t 7), none, none⟩])
  (.cond (.t 8) (.seq (.reg none [
    ⟨(some 6), .mv (.c (.v (.bool false))), none, none⟩])
   .ret) .skip))
  (.seq (.seq (.reg none [
   ⟨(some 9), .load (some 3) (.t 3), none, none⟩,
   ⟨(some 10), .mv (.c .junk), none, (some ((.c (.clo f_caesuraref15_Great [] [])), [(.t 9), (.c (.v (.int .i64 2000)))]))⟩,
   ⟨(some 11), .mv (.t 10), none, none⟩,
   ⟨(some 12), .load (some 3) (.t 4), (some (11, false)), none⟩,
   ⟨(some 13), .mv (.c .junk), (some (11, false)), (some ((.c (.clo f_caesuraref15_Great [] [])), [(.t 12), (.c (.v (.int .i64 2000)))]))⟩,
   ⟨(some 14), .pick (.t 11) (.c (.v (.bool true))) (.t 13), none, none⟩,
   ⟨(some 15), .mv (.t 14), none, none⟩,
   ⟨(some 16), .mv (.t 2), (some (15, false)), none⟩,
   ⟨(some 17), .len (.t 16), (some (15, false)), none⟩,
   ⟨(some 18), .bin .gtr (.t 17) (.c (.v (.int .i64 200))), (some (15, false)), none⟩,
   ⟨(some 19), .pick (.t 15) (.c (.v (.bool true))) (.t 18), none, none⟩])
  (.cond (.t 19) (.seq (.reg none [
    ⟨(some 6), .mv (.c (.v (.bool true))), none, none⟩])
   .ret) .skip))
  (.seq (.reg (some []) [
   ⟨(some 20), .load (some 3) (.t 3), none, none⟩,
   ⟨(some 21), .mv (.c .junk), none, (some ((.c (.clo f_det_Right [] [])), [(.t 20)]))⟩,
   ⟨(some 22), .load (some 3) (.t 3), none, none⟩,
   ⟨(some 23), .mv (.c .junk), none, (some ((.c (.clo f_caesuraref15_Right [] [])), [(.t 22)]))⟩,
   ⟨(some 24), .beq false (.t 21) (.t 23), none, none⟩,
   ⟨(some 25), .mv (.t 24), none, none⟩,
   ⟨(some 26), .load (some 3) (.t 3), (some (25, true)), none⟩,
   ⟨(some 27), .mv (.t 2), (some (25, true)), none⟩,
   ⟨(some 28), .mv (.c .junk), (some (25, true)), (some ((.c (.clo f_det_Run [] [])), [(.t 26), (.t 27)]))⟩,
   ⟨(some 29), .load (some 3) (.t 3), (some (25, true)), none⟩,
   ⟨(some 30), .mv (.t 2), (some (25, true)), none⟩,
   ⟨(some 31), .mv (.c .junk), (some (25, true)), (some ((.c (.clo f_caesuraref15_Run [] [])), [(.t 29), (.t 30)]))⟩,
   ⟨(some 32), .bin .eql (.t 28) (.t 31), (some (25, true)), none⟩,
   ⟨(some 33), .pick (.t 25) (.t 32) (.c (.v (.bool false))), none, none⟩,
   ⟨(some 34), .mv (.t 33), none, none⟩,
   ⟨(some 35), .load (some 3) (.t 3), (some (34, true)), none⟩,
   ⟨(some 36), .mv (.t 2), (some (34, true)), none⟩,
   ⟨(some 37), .mv (.c .junk), (some (34, true)), (some ((.c (.clo f_det_Accepts [] [])), [(.t 35), (.t 36)]))⟩,
   ⟨(some 38), .load (some 3) (.t 3), (some (34, true)), none⟩,
   ⟨(some 39), .mv (.t 2), (some (34, true)), none⟩,
   ⟨(some 40), .mv (.c .junk), (some (34, true)), (some ((.c (.clo f_caesuraref15_Accepts [] [])), [(.t 38), (.t 39)]))⟩,
   ⟨(some 41), .beq false (.t 37) (.t 40), (some (34, true)), none⟩,
   ⟨(some 42), .pick (.t 34) (.t 41) (.c (.v (.bool false))), none, none⟩,
   ⟨(some 43), .mv (.t 42), none, none⟩,
   ⟨(some 44), .load (some 3) (.t 3), (some (43, true)), none⟩,
   ⟨(some 45), .load (some 3) (.t 4), (some (43, true)), none⟩,
   ⟨(some 46), .mv (.c .junk), (some (43, true)), (some ((.c (.clo f_det_Same [] [])), [(.t 44), (.t 45)]))⟩,
   ⟨(some 47), .load (some 3) (.t 3), (some (43, true)), none⟩,
   ⟨(some 48), .load (some 3) (.t 4), (some (43, true)), none⟩,
   ⟨(some 49), .mv (.c .junk), (some (43, true)), (some ((.c (.clo f_caesuraref15_Same [] [])), [(.t 47), (.t 48)]))⟩,
   ⟨(some 50), .beq false (.t 46) (.t 49), (some (43, true)), none⟩,
   ⟨(some 51), .pick (.t 43) (.t 50) (.c (.v (.bool false))), none, none⟩,
   ⟨(some 52), .mv (.t 51), none, none⟩,
   ⟨(some 53), .load (some 3) (.t 3), (some (52, true)), none⟩,
   ⟨(some 54), .load (some 3) (.t 3), (some (52, true)), none⟩,
   ⟨(some 55), .mv (.c .junk), (some (52, true)), (some ((.c (.clo f_det_Same [] [])), [(.t 53), (.t 54)]))⟩,
   ⟨(some 56), .pick (.t 52) (.t 55) (.c (.v (.bool false))), none, none⟩,
   ⟨(some 6), .mv (.t 56), none, none⟩])
  .ret))))
theorem sameD_refl (a : Det) : sameD a a = true := by simp [sameD]
theorem DetAnswers_body {P : Program} {fl fg f1 r1 f2 r2 f3 r3 f4 r4 : FuncId} (a b : Det) (l : List Int) (hl : PureC P fl [] (encB true)) (ga gb : Bool) (hga : PureC P fg [encDet a, encI 2000] (encB ga)) (hgb : PureC P fg [encDet b, encI 2000] (encB gb))
    (h1 : PureC P f1 [encDet a] (encB (rightD a))) (k1 : PureC P r1 [encDet a] (encB (rightD a)))
    (h2 : Len l → PureC P f2 [encDet a, encIs l] (encI (numO (runD a l)))) (k2 : Len l → PureC P r2 [encDet a, encIs l] (encI (numO (runD a l))))
    (h3 : Len l → PureC P f3 [encDet a, encIs l] (encB (accD a l))) (k3 : Len l → PureC P r3 [encDet a, encIs l] (encB (accD a l)))
    (h4 : PureC P f4 [encDet a, encDet b] (encB (sameD a b))) (k4 : PureC P r4 [encDet a, encDet b] (encB (sameD a b))) (h5 : PureC P f4 [encDet a, encDet a] (encB (sameD a a))) :
    AW P (c_caesuralaw15_DetAnswers fl fg f1 r1 f2 r2 f3 r3 f4 r4) (RetK [6] (FzK (encB true))) (argF [encDet a, encDet b, encIs l]) S0 := by
  have ca := closed_Det a
  have cb := closed_Det b
  have cl := closed_Is l
  rw [sameD_refl] at h5
  simp [AW_seq, AW_reg, AW_regD, AW_block, AW_cond, AW_skip, AW_exit, AW_ret, AW_scp, condR_true, condR_false, AThen_normal, AThen_ret, AThen_exit, ABlock_normal, ABlock_ret, ABlock_exit, AScope_normal, AScope_ret, AScope_exit, RetK_ret, RetK_normal, retAV_one, retAV_two, retAV_three, retAV_nil, RG_nil, RG_op, RG_guard, gdR_tt, gdR_ff, gdR_tf, gdR_ft, gdR_un, RG_call, callQ_clo, contK_ap, opR_some, RD_nil, RD_op0, RD_op1, opD0_some, opD1_some, RD_call, callQD_clo, RD_guard, gdD_tt, gdD_ff, gdD_tf, gdD_ft, gdD_un, psh_nil, psh_cons, Apt_nil, Apt_nilT, Apt_true, Apt_false, Dis_def, runT_val, runT_rd, runT_wr, runT_new, runT_mv, ex, put_some, put_none, ev_t, ev_c, argF_zero, argF_succ, set_g, set_n, cells_v, cells_sl, cells_agg, cells_own, cells_ptr, cells_clo, cells_eptr, cells_mp, putc, exBslice, lfill, exField, exIdxV, exIdxP, exBox, exAlloc, exLoad, exStore, exFieldA, exIdxA, exLen, exPick, exUn, exBeq, exMM, exSeq, seqGo, exExt, binV, intOp, subc, AV.solid, S0, encI, encB, c_caesuralaw15_DetAnswers, encDet]
  refine CallR.pure hl cl_nil (closed_B _) ?_
  simp [AW_seq, AW_reg, AW_regD, AW_block, AW_cond, AW_skip, AW_exit, AW_ret, AW_scp, condR_true, condR_false, AThen_normal, AThen_ret, AThen_exit, ABlock_normal, ABlock_ret, ABlock_exit, AScope_normal, AScope_ret, AScope_exit, RetK_ret, RetK_normal, retAV_one, retAV_two, retAV_three, retAV_nil, RG_nil, RG_op, RG_guard, gdR_tt, gdR_ff, gdR_tf, gdR_ft, gdR_un, RG_call, callQ_clo, contK_ap, opR_some, RD_nil, RD_op0, RD_op1, opD0_some, opD1_some, RD_call, callQD_clo, RD_guard, gdD_tt, gdD_ff, gdD_tf, gdD_ft, gdD_un, psh_nil, psh_cons, Apt_nil, Apt_nilT, Apt_true, Apt_false, Dis_def, runT_val, runT_rd, runT_wr, runT_new, runT_mv, ex, put_some, put_none, ev_t, ev_c, argF_zero, argF_succ, set_g, set_n, cells_v, cells_sl, cells_agg, cells_own, cells_ptr, cells_clo, cells_eptr, cells_mp, putc, exBslice, lfill, exField, exIdxV, exIdxP, exBox, exAlloc, exLoad, exStore, exFieldA, exIdxA, exLen, exPick, exUn, exBeq, exMM, exSeq, seqGo, exExt, binV, intOp, subc, AV.solid, S0, encI, encB]
  refine CallR.pure hga (cl_cons ca (cl_cons (closed_I _) cl_nil)) (closed_B _) ?_
  cases ga with
  | true =>
    simp [AW_seq, AW_reg, AW_regD, AW_block, AW_cond, AW_skip, AW_exit, AW_ret, AW_scp, condR_true, condR_false, AThen_normal, AThen_ret, AThen_exit, ABlock_normal, ABlock_ret, ABlock_exit, AScope_normal, AScope_ret, AScope_exit, RetK_ret, RetK_normal, retAV_one, retAV_two, retAV_three, retAV_nil, RG_nil, RG_op, RG_guard, gdR_tt, gdR_ff, gdR_tf, gdR_ft, gdR_un, RG_call, callQ_clo, contK_ap, opR_some, RD_nil, RD_op0, RD_op1, opD0_some, opD1_some, RD_call, callQD_clo, RD_guard, gdD_tt, gdD_ff, gdD_tf, gdD_ft, gdD_un, psh_nil, psh_cons, Apt_nil, Apt_nilT, Apt_true, Apt_false, Dis_def, runT_val, runT_rd, runT_wr, runT_new, runT_mv, ex, put_some, put_none, ev_t, ev_c, argF_zero, argF_succ, set_g, set_n, cells_v, cells_sl, cells_agg, cells_own, cells_ptr, cells_clo, cells_eptr, cells_mp, putc, exBslice, lfill, exField, exIdxV, exIdxP, exBox, exAlloc, exLoad, exStore, exFieldA, exIdxA, exLen, exPick, exUn, exBeq, exMM, exSeq, seqGo, exExt, binV, intOp, subc, AV.solid, S0, encI, encB]
    exact FzK_B true _
  | false =>
    simp [AW_seq, AW_reg, AW_regD, AW_block, AW_cond, AW_skip, AW_exit, AW_ret, AW_scp, condR_true, condR_false, AThen_normal, AThen_ret, AThen_exit, ABlock_normal, ABlock_ret, ABlock_exit, AScope_normal, AScope_ret, AScope_exit, RetK_ret, RetK_normal, retAV_one, retAV_two, retAV_three, retAV_nil, RG_nil, RG_op, RG_guard, gdR_tt, gdR_ff, gdR_tf, gdR_ft, gdR_un, RG_call, callQ_clo, contK_ap, opR_some, RD_nil, RD_op0, RD_op1, opD0_some, opD1_some, RD_call, callQD_clo, RD_guard, gdD_tt, gdD_ff, gdD_tf, gdD_ft, gdD_un, psh_nil, psh_cons, Apt_nil, Apt_nilT, Apt_true, Apt_false, Dis_def, runT_val, runT_rd, runT_wr, runT_new, runT_mv, ex, put_some, put_none, ev_t, ev_c, argF_zero, argF_succ, set_g, set_n, cells_v, cells_sl, cells_agg, cells_own, cells_ptr, cells_clo, cells_eptr, cells_mp, putc, exBslice, lfill, exField, exIdxV, exIdxP, exBox, exAlloc, exLoad, exStore, exFieldA, exIdxA, exLen, exPick, exUn, exBeq, exMM, exSeq, seqGo, exExt, binV, intOp, subc, AV.solid, S0, encI, encB, encDet]
    refine CallR.pure hgb (cl_cons cb (cl_cons (closed_I _) cl_nil)) (closed_B _) ?_
    cases gb with
    | true =>
      simp [AW_seq, AW_reg, AW_regD, AW_block, AW_cond, AW_skip, AW_exit, AW_ret, AW_scp, condR_true, condR_false, AThen_normal, AThen_ret, AThen_exit, ABlock_normal, ABlock_ret, ABlock_exit, AScope_normal, AScope_ret, AScope_exit, RetK_ret, RetK_normal, retAV_one, retAV_two, retAV_three, retAV_nil, RG_nil, RG_op, RG_guard, gdR_tt, gdR_ff, gdR_tf, gdR_ft, gdR_un, RG_call, callQ_clo, contK_ap, opR_some, RD_nil, RD_op0, RD_op1, opD0_some, opD1_some, RD_call, callQD_clo, RD_guard, gdD_tt, gdD_ff, gdD_tf, gdD_ft, gdD_un, psh_nil, psh_cons, Apt_nil, Apt_nilT, Apt_true, Apt_false, Dis_def, runT_val, runT_rd, runT_wr, runT_new, runT_mv, ex, put_some, put_none, ev_t, ev_c, argF_zero, argF_succ, set_g, set_n, cells_v, cells_sl, cells_agg, cells_own, cells_ptr, cells_clo, cells_eptr, cells_mp, putc, exBslice, lfill, exField, exIdxV, exIdxP, exBox, exAlloc, exLoad, exStore, exFieldA, exIdxA, exLen, exPick, exUn, exBeq, exMM, exSeq, seqGo, exExt, binV, intOp, subc, AV.solid, S0, encI, encB]
      exact FzK_B true _
    | false =>
      by_cases hn : 200 < l.length
      · have hn' : (200 : Int) < l.length := by omega
        simp [AW_seq, AW_reg, AW_regD, AW_block, AW_cond, AW_skip, AW_exit, AW_ret, AW_scp, condR_true, condR_false, AThen_normal, AThen_ret, AThen_exit, ABlock_normal, ABlock_ret, ABlock_exit, AScope_normal, AScope_ret, AScope_exit, RetK_ret, RetK_normal, retAV_one, retAV_two, retAV_three, retAV_nil, RG_nil, RG_op, RG_guard, gdR_tt, gdR_ff, gdR_tf, gdR_ft, gdR_un, RG_call, callQ_clo, contK_ap, opR_some, RD_nil, RD_op0, RD_op1, opD0_some, opD1_some, RD_call, callQD_clo, RD_guard, gdD_tt, gdD_ff, gdD_tf, gdD_ft, gdD_un, psh_nil, psh_cons, Apt_nil, Apt_nilT, Apt_true, Apt_false, Dis_def, runT_val, runT_rd, runT_wr, runT_new, runT_mv, ex, put_some, put_none, ev_t, ev_c, argF_zero, argF_succ, set_g, set_n, cells_v, cells_sl, cells_agg, cells_own, cells_ptr, cells_clo, cells_eptr, cells_mp, putc, exBslice, lfill, exField, exIdxV, exIdxP, exBox, exAlloc, exLoad, exStore, exFieldA, exIdxA, exLen, exPick, exUn, exBeq, exMM, exSeq, seqGo, exExt, binV, intOp, subc, AV.solid, S0, encI, encB, encIs, hn, hn']
        exact FzK_B true _
      · have hn' : ¬ (200 : Int) < l.length := by omega
        have hL : Len l := by unfold Len; omega
        have K : ∀ {f : FuncId} {args : List AV} {r : AV}, PureC P f args r → (∀ x ∈ args, Closed x) → Closed r → ∀ n g, CallD P f args ⟨n, g⟩ [] r := fun h hc hr n g => CallD.cd h hc hr
        have q1 := K h1 (cl_cons ca cl_nil) (closed_B _)
        have p1 := K k1 (cl_cons ca cl_nil) (closed_B _)
        have q2 := K (h2 hL) (cl_cons ca (cl_cons cl cl_nil)) (closed_I _)
        have p2 := K (k2 hL) (cl_cons ca (cl_cons cl cl_nil)) (closed_I _)
        have q3 := K (h3 hL) (cl_cons ca (cl_cons cl cl_nil)) (closed_B _)
        have p3 := K (k3 hL) (cl_cons ca (cl_cons cl cl_nil)) (closed_B _)
        have q4 := K h4 (cl_cons ca (cl_cons cb cl_nil)) (closed_B _)
        have p4 := K k4 (cl_cons ca (cl_cons cb cl_nil)) (closed_B _)
        have q5 := K h5 (cl_cons ca (cl_cons ca cl_nil)) (closed_B _)
        simp only [encDet, encIs, encI, encB] at q1 p1 q2 p2 q3 p3 q4 p4 q5
        simp [AW_seq, AW_reg, AW_regD, AW_block, AW_cond, AW_skip, AW_exit, AW_ret, AW_scp, condR_true, condR_false, AThen_normal, AThen_ret, AThen_exit, ABlock_normal, ABlock_ret, ABlock_exit, AScope_normal, AScope_ret, AScope_exit, RetK_ret, RetK_normal, retAV_one, retAV_two, retAV_three, retAV_nil, RG_nil, RG_op, RG_guard, gdR_tt, gdR_ff, gdR_tf, gdR_ft, gdR_un, RG_call, callQ_clo, contK_ap, opR_some, RD_nil, RD_op0, RD_op1, opD0_some, opD1_some, RD_call, callQD_clo, RD_guard, gdD_tt, gdD_ff, gdD_tf, gdD_ft, gdD_un, psh_nil, psh_cons, Apt_nil, Apt_nilT, Apt_true, Apt_false, Dis_def, runT_val, runT_rd, runT_wr, runT_new, runT_mv, ex, put_some, put_none, ev_t, ev_c, argF_zero, argF_succ, set_g, set_n, cells_v, cells_sl, cells_agg, cells_own, cells_ptr, cells_clo, cells_eptr, cells_mp, putc, exBslice, lfill, exField, exIdxV, exIdxP, exBox, exAlloc, exLoad, exStore, exFieldA, exIdxA, exLen, exPick, exUn, exBeq, exMM, exSeq, seqGo, exExt, binV, intOp, subc, AV.solid, S0, encI, encB, encIs, hn, hn', encDet]
        refine ⟨_, ⟨_, q1 _ _⟩, _, ⟨_, p1 _ _⟩, ?_⟩
        simp [AW_seq, AW_reg, AW_regD, AW_block, AW_cond, AW_skip, AW_exit, AW_ret, AW_scp, condR_true, condR_false, AThen_normal, AThen_ret, AThen_exit, ABlock_normal, ABlock_ret, ABlock_exit, AScope_normal, AScope_ret, AScope_exit, RetK_ret, RetK_normal, retAV_one, retAV_two, retAV_three, retAV_nil, RG_nil, RG_op, RG_guard, gdR_tt, gdR_ff, gdR_tf, gdR_ft, gdR_un, RG_call, callQ_clo, contK_ap, opR_some, RD_nil, RD_op0, RD_op1, opD0_some, opD1_some, RD_call, callQD_clo, RD_guard, gdD_tt, gdD_ff, gdD_tf, gdD_ft, gdD_un, psh_nil, psh_cons, Apt_nil, Apt_nilT, Apt_true, Apt_false, Dis_def, runT_val, runT_rd, runT_wr, runT_new, runT_mv, ex, put_some, put_none, ev_t, ev_c, argF_zero, argF_succ, set_g, set_n, cells_v, cells_sl, cells_agg, cells_own, cells_ptr, cells_clo, cells_eptr, cells_mp, putc, exBslice, lfill, exField, exIdxV, exIdxP, exBox, exAlloc, exLoad, exStore, exFieldA, exIdxA, exLen, exPick, exUn, exBeq, exMM, exSeq, seqGo, exExt, binV, intOp, subc, AV.solid, S0, encI, encB]
        refine ⟨_, ⟨_, q2 _ _⟩, _, ⟨_, p2 _ _⟩, ?_⟩
        simp [AW_seq, AW_reg, AW_regD, AW_block, AW_cond, AW_skip, AW_exit, AW_ret, AW_scp, condR_true, condR_false, AThen_normal, AThen_ret, AThen_exit, ABlock_normal, ABlock_ret, ABlock_exit, AScope_normal, AScope_ret, AScope_exit, RetK_ret, RetK_normal, retAV_one, retAV_two, retAV_three, retAV_nil, RG_nil, RG_op, RG_guard, gdR_tt, gdR_ff, gdR_tf, gdR_ft, gdR_un, RG_call, callQ_clo, contK_ap, opR_some, RD_nil, RD_op0, RD_op1, opD0_some, opD1_some, RD_call, callQD_clo, RD_guard, gdD_tt, gdD_ff, gdD_tf, gdD_ft, gdD_un, psh_nil, psh_cons, Apt_nil, Apt_nilT, Apt_true, Apt_false, Dis_def, runT_val, runT_rd, runT_wr, runT_new, runT_mv, ex, put_some, put_none, ev_t, ev_c, argF_zero, argF_succ, set_g, set_n, cells_v, cells_sl, cells_agg, cells_own, cells_ptr, cells_clo, cells_eptr, cells_mp, putc, exBslice, lfill, exField, exIdxV, exIdxP, exBox, exAlloc, exLoad, exStore, exFieldA, exIdxA, exLen, exPick, exUn, exBeq, exMM, exSeq, seqGo, exExt, binV, intOp, subc, AV.solid, S0, encI, encB]
        refine ⟨_, ⟨_, q3 _ _⟩, _, ⟨_, p3 _ _⟩, ?_⟩
        simp [AW_seq, AW_reg, AW_regD, AW_block, AW_cond, AW_skip, AW_exit, AW_ret, AW_scp, condR_true, condR_false, AThen_normal, AThen_ret, AThen_exit, ABlock_normal, ABlock_ret, ABlock_exit, AScope_normal, AScope_ret, AScope_exit, RetK_ret, RetK_normal, retAV_one, retAV_two, retAV_three, retAV_nil, RG_nil, RG_op, RG_guard, gdR_tt, gdR_ff, gdR_tf, gdR_ft, gdR_un, RG_call, callQ_clo, contK_ap, opR_some, RD_nil, RD_op0, RD_op1, opD0_some, opD1_some, RD_call, callQD_clo, RD_guard, gdD_tt, gdD_ff, gdD_tf, gdD_ft, gdD_un, psh_nil, psh_cons, Apt_nil, Apt_nilT, Apt_true, Apt_false, Dis_def, runT_val, runT_rd, runT_wr, runT_new, runT_mv, ex, put_some, put_none, ev_t, ev_c, argF_zero, argF_succ, set_g, set_n, cells_v, cells_sl, cells_agg, cells_own, cells_ptr, cells_clo, cells_eptr, cells_mp, putc, exBslice, lfill, exField, exIdxV, exIdxP, exBox, exAlloc, exLoad, exStore, exFieldA, exIdxA, exLen, exPick, exUn, exBeq, exMM, exSeq, seqGo, exExt, binV, intOp, subc, AV.solid, S0, encI, encB]
        refine ⟨_, ⟨_, q4 _ _⟩, _, ⟨_, p4 _ _⟩, ?_⟩
        simp [AW_seq, AW_reg, AW_regD, AW_block, AW_cond, AW_skip, AW_exit, AW_ret, AW_scp, condR_true, condR_false, AThen_normal, AThen_ret, AThen_exit, ABlock_normal, ABlock_ret, ABlock_exit, AScope_normal, AScope_ret, AScope_exit, RetK_ret, RetK_normal, retAV_one, retAV_two, retAV_three, retAV_nil, RG_nil, RG_op, RG_guard, gdR_tt, gdR_ff, gdR_tf, gdR_ft, gdR_un, RG_call, callQ_clo, contK_ap, opR_some, RD_nil, RD_op0, RD_op1, opD0_some, opD1_some, RD_call, callQD_clo, RD_guard, gdD_tt, gdD_ff, gdD_tf, gdD_ft, gdD_un, psh_nil, psh_cons, Apt_nil, Apt_nilT, Apt_true, Apt_false, Dis_def, runT_val, runT_rd, runT_wr, runT_new, runT_mv, ex, put_some, put_none, ev_t, ev_c, argF_zero, argF_succ, set_g, set_n, cells_v, cells_sl, cells_agg, cells_own, cells_ptr, cells_clo, cells_eptr, cells_mp, putc, exBslice, lfill, exField, exIdxV, exIdxP, exBox, exAlloc, exLoad, exStore, exFieldA, exIdxA, exLen, exPick, exUn, exBeq, exMM, exSeq, seqGo, exExt, binV, intOp, subc, AV.solid, S0, encI, encB]
        refine ⟨_, ⟨_, q5 _ _⟩, ?_⟩
        exact FzK_B true _
end Go.Rf

