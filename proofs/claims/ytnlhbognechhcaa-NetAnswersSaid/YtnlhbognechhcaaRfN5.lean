import Derived.Test.YtnlhbognechhcaaRfN4
import Derived.Test.YtnlhbognechhcaaRfKl
/- Own work: NetAnswers, gone through. -/
set_option linter.unusedVariables false
set_option linter.unusedSimpArgs false
namespace Go.Rf
open Go.RowKit

def c_caesuralaw13_NetAnswers (f_caesuralaw13_alive f_caesuraref13_Great f_net_Step f_caesuraref13_Step f_caesuraref01_Ints f_net_Right f_caesuraref13_Right f_net_Accepts f_caesuraref13_Accepts f_net_Same f_caesuraref13_Same : FuncId) : AC :=
  (.seq (.reg none [
   ⟨(some 3), .box 4 (.t 0), none, none⟩,
   ⟨(some 4), .box 4 (.t 1), none, none⟩,
   ⟨(some 6), .mv (.c (.v (.bool false))), none, none⟩])
  (.seq (.seq (.reg none [
   ⟨(some 8), .mv (.c .junk), none, (some ((.c (.clo f_caesuralaw13_alive [] [])), []))⟩,
   ⟨(some 9), .un .not (.t 8), none, none⟩])
  (.cond (.t 9) (.seq (.reg none [
    ⟨(some 6), .mv (.c (.v (.bool false))), none, none⟩])
   .ret) .skip))
  (.seq (.seq (.reg none [
   ⟨(some 10), .load (some 4) (.t 3), none, none⟩,
   ⟨(some 11), .mv (.c .junk), none, (some ((.c (.clo f_caesuraref13_Great [] [])), [(.t 10), (.c (.v (.int .i64 500)))]))⟩,
   ⟨(some 12), .mv (.t 11), none, none⟩,
   ⟨(some 13), .load (some 4) (.t 4), (some (12, false)), none⟩,
   ⟨(some 14), .mv (.c .junk), (some (12, false)), (some ((.c (.clo f_caesuraref13_Great [] [])), [(.t 13), (.c (.v (.int .i64 500)))]))⟩,
   ⟨(some 15), .pick (.t 12) (.c (.v (.bool true))) (.t 14), none, none⟩,
   ⟨(some 16), .mv (.t 15), none, none⟩,
   ⟨(some 17), .mv (.t 2), (some (16, false)), none⟩,
   ⟨(some 18), .len (.t 17), (some (16, false)), none⟩,
   ⟨(some 19), .bin .gtr (.t 18) (.c (.v (.int .i64 30))), (some (16, false)), none⟩,
   ⟨(some 20), .pick (.t 16) (.c (.v (.bool true))) (.t 19), none, none⟩])
  (.cond (.t 20) (.seq (.reg none [
    ⟨(some 6), .mv (.c (.v (.bool true))), none, none⟩])
   .ret) .skip))
  (.seq (.seq (.reg none [
   ⟨(some 7), .mv (.c (.v (.int .i64 0))), none, none⟩])
  (.block 0 (.loop (.seq (.seq (.reg none [
     ⟨(some 21), .mv (.t 7), none, none⟩,
     ⟨(some 22), .mv (.t 2), none, none⟩,
     ⟨(some 23), .len (.t 22), none, none⟩,
     ⟨(some 24), .bin .lss (.t 21) (.t 23), none, none⟩])
    (.cond (.t 24) .skip (.exit 0)))
    (.seq (.block 1 (.seq (.reg (some []) [
      ⟨(some 27), .load (some 4) (.t 3), none, none⟩,
      ⟨(some 28), .mv (.t 2), none, none⟩,
      ⟨(some 29), .mv (.t 2), none, none⟩,
      ⟨(some 30), .mv (.t 7), none, none⟩,
      ⟨(some 31), .idxA 1 (.t 29) (.t 30), none, none⟩,
      ⟨(some 32), .load none (.t 31), none, none⟩,
      ⟨(some 33), .mv (.c .junk), none, (some ((.c (.clo f_net_Step [] [])), [(.t 27), (.t 28), (.t 32)]))⟩,
      ⟨(some 34), .load (some 4) (.t 3), none, none⟩,
      ⟨(some 35), .mv (.t 2), none, none⟩,
      ⟨(some 36), .mv (.t 2), none, none⟩,
      ⟨(some 37), .mv (.t 7), none, none⟩,
      ⟨(some 38), .idxA 1 (.t 36) (.t 37), none, none⟩,
      ⟨(some 39), .load none (.t 38), none, none⟩,
      ⟨(some 40), .mv (.c .junk), none, (some ((.c (.clo f_caesuraref13_Step [] [])), [(.t 34), (.t 35), (.t 39)]))⟩,
      ⟨(some 41), .mv (.c .junk), none, (some ((.c (.clo f_caesuraref01_Ints [] [])), [(.t 33), (.t 40)]))⟩,
      ⟨(some 42), .un .not (.t 41), none, none⟩])
     (.cond (.t 42) (.seq (.reg none [
       ⟨(some 6), .mv (.c (.v (.bool false))), none, none⟩])
      .ret) .skip)))
    (.reg none [
     ⟨(some 25), .mv (.t 7), none, none⟩,
     ⟨(some 26), .bin .add (.t 25) (.c (.v (.int .i64 1))), none, none⟩,
     ⟨(some 7), .mv (.t 26), none, none⟩]))))))
  (.seq (.reg (some []) [
   ⟨(some 43), .load (some 4) (.t 3), none, none⟩,
   ⟨(some 44), .mv (.c .junk), none, (some ((.c (.clo f_net_Right [] [])), [(.t 43)]))⟩,
   ⟨(some 45), .load (some 4) (.t 3), none, none⟩,
   ⟨(some 46), .mv (.c .junk), none, (some ((.c (.clo f_caesuraref13_Right [] [])), [(.t 45)]))⟩,
   ⟨(some 47), .beq false (.t 44) (.t 46), none, none⟩,
   ⟨(some 48), .mv (.t 47), none, none⟩,
   ⟨(some 49), .load (some 4) (.t 3), (some (48, true)), none⟩,
   ⟨(some 50), .mv (.t 2), (some (48, true)), none⟩,
   ⟨(some 51), .mv (.c .junk), (some (48, true)), (some ((.c (.clo f_net_Accepts [] [])), [(.t 49), (.t 50)]))⟩,
   ⟨(some 52), .load (some 4) (.t 3), (some (48, true)), none⟩,
   ⟨(some 53), .mv (.t 2), (some (48, true)), none⟩,
   ⟨(some 54), .mv (.c .junk), (some (48, true)), (some ((.c (.clo f_caesuraref13_Accepts [] [])), [(.t 52), (.t 53)]))⟩,
   ⟨(some 55), .beq false (.t 51) (.t 54), (some (48, true)), none⟩,
   ⟨(some 56), .pick (.t 48) (.t 55) (.c (.v (.bool false))), none, none⟩,
   ⟨(some 57), .mv (.t 56), none, none⟩,
   ⟨(some 58), .load (some 4) (.t 3), (some (57, true)), none⟩,
   ⟨(some 59), .load (some 4) (.t 4), (some (57, true)), none⟩,
   ⟨(some 60), .mv (.c .junk), (some (57, true)), (some ((.c (.clo f_net_Same [] [])), [(.t 58), (.t 59)]))⟩,
   ⟨(some 61), .load (some 4) (.t 3), (some (57, true)), none⟩,
   ⟨(some 62), .load (some 4) (.t 4), (some (57, true)), none⟩,
   ⟨(some 63), .mv (.c .junk), (some (57, true)), (some ((.c (.clo f_caesuraref13_Same [] [])), [(.t 61), (.t 62)]))⟩,
   ⟨(some 64), .beq false (.t 60) (.t 63), (some (57, true)), none⟩,
   ⟨(some 65), .pick (.t 57) (.t 64) (.c (.v (.bool false))), none, none⟩,
   ⟨(some 66), .mv (.t 65), none, none⟩,
   ⟨(some 67), .load (some 4) (.t 3), (some (66, true)), none⟩,
   ⟨(some 68), .load (some 4) (.t 3), (some (66, true)), none⟩,
   ⟨(some 69), .mv (.c .junk), (some (66, true)), (some ((.c (.clo f_net_Same [] [])), [(.t 67), (.t 68)]))⟩,
   ⟨(some 70), .pick (.t 66) (.t 69) (.c (.v (.bool false))), none, none⟩,
   ⟨(some 6), .mv (.t 70), none, none⟩])
  .ret)))))
def naI (n m : Net) (l : List Int) (i : Nat) (f : AF) (S : St) : Prop := f 7 = encI i ∧ f 2 = encIs l ∧ f 3 = .ptr 0 0 0 ∧ f 4 = .ptr 1 0 0 ∧ S.g 0 = some (.arr 4 [encNet n]) ∧ S.g 1 = some (.arr 4 [encNet m])
theorem NetAnswers_body {P : Program} {fl fg f1 r1 fi fr rr fa ra fs rs : FuncId} (n m : Net) (l : List Int) (hl : PureC P fl [] (encB true)) (gn gm : Bool) (hgn : PureC P fg [encNet n, encI 500] (encB gn)) (hgm : PureC P fg [encNet m, encI 500] (encB gm))
    (hi : ∀ a b, Len a → Len b → PureC P fi [encIs a, encIs b] (encB (a == b)))
    (H : gn = false → gm = false → l.length ≤ 30 → (∀ s, PureC P f1 [encNet n, encIs l, encI s] (encIs (if rightN n = true then stepN n l s else [])) ∧ PureC P r1 [encNet n, encIs l, encI s] (encIs (if rightN n = true then stepN n l s else []))) ∧
      PureC P fr [encNet n] (encB (rightN n)) ∧ PureC P rr [encNet n] (encB (rightN n)) ∧ PureC P fa [encNet n, encIs l] (encB (accN n l)) ∧ PureC P ra [encNet n, encIs l] (encB (accN n l)) ∧
      (∀ k, k = n ∨ k = m → PureC P fs [encNet n, encNet k] (encB (decide (n = k)))) ∧ PureC P rs [encNet n, encNet m] (encB (decide (n = m)))) :
    AW P (c_caesuralaw13_NetAnswers fl fg f1 r1 fi fr rr fa ra fs rs) (RetK [6] (FzK (encB true))) (argF [encNet n, encNet m, encIs l]) S0 := by
  have cn := closed_Net n
  have cm := closed_Net m
  have K : ∀ {f : FuncId} {args : List AV} {r : AV}, PureC P f args r → (∀ x ∈ args, Closed x) → Closed r → ∀ n g, CallD P f args ⟨n, g⟩ [] r := fun h hc hr n g => CallD.kl h hc hr
  simp [AW_seq, AW_reg, AW_regD, AW_block, AW_cond, AW_skip, AW_exit, AW_ret, AW_scp, condR_true, condR_false, AThen_normal, AThen_ret, AThen_exit, ABlock_normal, ABlock_ret, ABlock_exit, AScope_normal, AScope_ret, AScope_exit, RetK_ret, RetK_normal, retAV_one, retAV_two, retAV_three, retAV_nil, RG_nil, RG_op, RG_guard, gdR_tt, gdR_ff, gdR_tf, gdR_ft, gdR_un, RG_call, callQ_clo, contK_ap, opR_some, RD_nil, RD_op0, RD_op1, opD0_some, opD1_some, RD_call, callQD_clo, RD_guard, gdD_tt, gdD_ff, gdD_tf, gdD_ft, gdD_un, psh_nil, psh_cons, Apt_nil, Apt_nilT, Apt_true, Apt_false, Dis_def, runT_val, runT_rd, runT_wr, runT_new, runT_mv, ex, put_some, put_none, ev_t, ev_c, argF_zero, argF_succ, set_g, set_n, cells_v, cells_sl, cells_agg, cells_own, cells_ptr, cells_clo, cells_eptr, cells_mp, putc, exBslice, lfill, exField, exIdxV, exIdxP, exBox, exAlloc, exLoad, exStore, exFieldA, exIdxA, exLen, exPick, exUn, exBeq, exMM, exSeq, seqGo, exExt, binV, intOp, subc, AV.solid, S0, encI, encB, c_caesuralaw13_NetAnswers, encNet]
  refine CallR.pure hl cl_nil (closed_B _) ?_
  simp [AW_seq, AW_reg, AW_regD, AW_block, AW_cond, AW_skip, AW_exit, AW_ret, AW_scp, condR_true, condR_false, AThen_normal, AThen_ret, AThen_exit, ABlock_normal, ABlock_ret, ABlock_exit, AScope_normal, AScope_ret, AScope_exit, RetK_ret, RetK_normal, retAV_one, retAV_two, retAV_three, retAV_nil, RG_nil, RG_op, RG_guard, gdR_tt, gdR_ff, gdR_tf, gdR_ft, gdR_un, RG_call, callQ_clo, contK_ap, opR_some, RD_nil, RD_op0, RD_op1, opD0_some, opD1_some, RD_call, callQD_clo, RD_guard, gdD_tt, gdD_ff, gdD_tf, gdD_ft, gdD_un, psh_nil, psh_cons, Apt_nil, Apt_nilT, Apt_true, Apt_false, Dis_def, runT_val, runT_rd, runT_wr, runT_new, runT_mv, ex, put_some, put_none, ev_t, ev_c, argF_zero, argF_succ, set_g, set_n, cells_v, cells_sl, cells_agg, cells_own, cells_ptr, cells_clo, cells_eptr, cells_mp, putc, exBslice, lfill, exField, exIdxV, exIdxP, exBox, exAlloc, exLoad, exStore, exFieldA, exIdxA, exLen, exPick, exUn, exBeq, exMM, exSeq, seqGo, exExt, binV, intOp, subc, AV.solid, S0, encI, encB]
  refine CallR.pure hgn (cl_cons cn (cl_cons (closed_I _) cl_nil)) (closed_B _) ?_
  cases gn with
  | true =>
    simp [AW_seq, AW_reg, AW_regD, AW_block, AW_cond, AW_skip, AW_exit, AW_ret, AW_scp, condR_true, condR_false, AThen_normal, AThen_ret, AThen_exit, ABlock_normal, ABlock_ret, ABlock_exit, AScope_normal, AScope_ret, AScope_exit, RetK_ret, RetK_normal, retAV_one, retAV_two, retAV_three, retAV_nil, RG_nil, RG_op, RG_guard, gdR_tt, gdR_ff, gdR_tf, gdR_ft, gdR_un, RG_call, callQ_clo, contK_ap, opR_some, RD_nil, RD_op0, RD_op1, opD0_some, opD1_some, RD_call, callQD_clo, RD_guard, gdD_tt, gdD_ff, gdD_tf, gdD_ft, gdD_un, psh_nil, psh_cons, Apt_nil, Apt_nilT, Apt_true, Apt_false, Dis_def, runT_val, runT_rd, runT_wr, runT_new, runT_mv, ex, put_some, put_none, ev_t, ev_c, argF_zero, argF_succ, set_g, set_n, cells_v, cells_sl, cells_agg, cells_own, cells_ptr, cells_clo, cells_eptr, cells_mp, putc, exBslice, lfill, exField, exIdxV, exIdxP, exBox, exAlloc, exLoad, exStore, exFieldA, exIdxA, exLen, exPick, exUn, exBeq, exMM, exSeq, seqGo, exExt, binV, intOp, subc, AV.solid, S0, encI, encB]
    exact FzK_B true _
  | false =>
    simp [AW_seq, AW_reg, AW_regD, AW_block, AW_cond, AW_skip, AW_exit, AW_ret, AW_scp, condR_true, condR_false, AThen_normal, AThen_ret, AThen_exit, ABlock_normal, ABlock_ret, ABlock_exit, AScope_normal, AScope_ret, AScope_exit, RetK_ret, RetK_normal, retAV_one, retAV_two, retAV_three, retAV_nil, RG_nil, RG_op, RG_guard, gdR_tt, gdR_ff, gdR_tf, gdR_ft, gdR_un, RG_call, callQ_clo, contK_ap, opR_some, RD_nil, RD_op0, RD_op1, opD0_some, opD1_some, RD_call, callQD_clo, RD_guard, gdD_tt, gdD_ff, gdD_tf, gdD_ft, gdD_un, psh_nil, psh_cons, Apt_nil, Apt_nilT, Apt_true, Apt_false, Dis_def, runT_val, runT_rd, runT_wr, runT_new, runT_mv, ex, put_some, put_none, ev_t, ev_c, argF_zero, argF_succ, set_g, set_n, cells_v, cells_sl, cells_agg, cells_own, cells_ptr, cells_clo, cells_eptr, cells_mp, putc, exBslice, lfill, exField, exIdxV, exIdxP, exBox, exAlloc, exLoad, exStore, exFieldA, exIdxA, exLen, exPick, exUn, exBeq, exMM, exSeq, seqGo, exExt, binV, intOp, subc, AV.solid, S0, encI, encB]
    refine CallR.pure hgm (cl_cons cm (cl_cons (closed_I _) cl_nil)) (closed_B _) ?_
    cases gm with
    | true =>
      simp [AW_seq, AW_reg, AW_regD, AW_block, AW_cond, AW_skip, AW_exit, AW_ret, AW_scp, condR_true, condR_false, AThen_normal, AThen_ret, AThen_exit, ABlock_normal, ABlock_ret, ABlock_exit, AScope_normal, AScope_ret, AScope_exit, RetK_ret, RetK_normal, retAV_one, retAV_two, retAV_three, retAV_nil, RG_nil, RG_op, RG_guard, gdR_tt, gdR_ff, gdR_tf, gdR_ft, gdR_un, RG_call, callQ_clo, contK_ap, opR_some, RD_nil, RD_op0, RD_op1, opD0_some, opD1_some, RD_call, callQD_clo, RD_guard, gdD_tt, gdD_ff, gdD_tf, gdD_ft, gdD_un, psh_nil, psh_cons, Apt_nil, Apt_nilT, Apt_true, Apt_false, Dis_def, runT_val, runT_rd, runT_wr, runT_new, runT_mv, ex, put_some, put_none, ev_t, ev_c, argF_zero, argF_succ, set_g, set_n, cells_v, cells_sl, cells_agg, cells_own, cells_ptr, cells_clo, cells_eptr, cells_mp, putc, exBslice, lfill, exField, exIdxV, exIdxP, exBox, exAlloc, exLoad, exStore, exFieldA, exIdxA, exLen, exPick, exUn, exBeq, exMM, exSeq, seqGo, exExt, binV, intOp, subc, AV.solid, S0, encI, encB]
      exact FzK_B true _
    | false =>
      by_cases hlen : (30 : Int) < l.length
      · have hl' : 30 < l.length := by omega
        simp [AW_seq, AW_reg, AW_regD, AW_block, AW_cond, AW_skip, AW_exit, AW_ret, AW_scp, condR_true, condR_false, AThen_normal, AThen_ret, AThen_exit, ABlock_normal, ABlock_ret, ABlock_exit, AScope_normal, AScope_ret, AScope_exit, RetK_ret, RetK_normal, retAV_one, retAV_two, retAV_three, retAV_nil, RG_nil, RG_op, RG_guard, gdR_tt, gdR_ff, gdR_tf, gdR_ft, gdR_un, RG_call, callQ_clo, contK_ap, opR_some, RD_nil, RD_op0, RD_op1, opD0_some, opD1_some, RD_call, callQD_clo, RD_guard, gdD_tt, gdD_ff, gdD_tf, gdD_ft, gdD_un, psh_nil, psh_cons, Apt_nil, Apt_nilT, Apt_true, Apt_false, Dis_def, runT_val, runT_rd, runT_wr, runT_new, runT_mv, ex, put_some, put_none, ev_t, ev_c, argF_zero, argF_succ, set_g, set_n, cells_v, cells_sl, cells_agg, cells_own, cells_ptr, cells_clo, cells_eptr, cells_mp, putc, exBslice, lfill, exField, exIdxV, exIdxP, exBox, exAlloc, exLoad, exStore, exFieldA, exIdxA, exLen, exPick, exUn, exBeq, exMM, exSeq, seqGo, exExt, binV, intOp, subc, AV.solid, S0, encI, encB, encIs, hlen, hl']
        exact FzK_B true _
      · have hl' : ¬ 30 < l.length := by omega
        obtain ⟨hst, k1, k2, k3, k4, k5, k6⟩ := H rfl rfl (by omega)
        simp [AW_seq, AW_reg, AW_regD, AW_block, AW_cond, AW_skip, AW_exit, AW_ret, AW_scp, condR_true, condR_false, AThen_normal, AThen_ret, AThen_exit, ABlock_normal, ABlock_ret, ABlock_exit, AScope_normal, AScope_ret, AScope_exit, RetK_ret, RetK_normal, retAV_one, retAV_two, retAV_three, retAV_nil, RG_nil, RG_op, RG_guard, gdR_tt, gdR_ff, gdR_tf, gdR_ft, gdR_un, RG_call, callQ_clo, contK_ap, opR_some, RD_nil, RD_op0, RD_op1, opD0_some, opD1_some, RD_call, callQD_clo, RD_guard, gdD_tt, gdD_ff, gdD_tf, gdD_ft, gdD_un, psh_nil, psh_cons, Apt_nil, Apt_nilT, Apt_true, Apt_false, Dis_def, runT_val, runT_rd, runT_wr, runT_new, runT_mv, ex, put_some, put_none, ev_t, ev_c, argF_zero, argF_succ, set_g, set_n, cells_v, cells_sl, cells_agg, cells_own, cells_ptr, cells_clo, cells_eptr, cells_mp, putc, exBslice, lfill, exField, exIdxV, exIdxP, exBox, exAlloc, exLoad, exStore, exFieldA, exIdxA, exLen, exPick, exUn, exBeq, exMM, exSeq, seqGo, exExt, binV, intOp, subc, AV.solid, S0, encI, encB, encIs, hlen, hl']
        refine AW_for l.length (naI n m l) ?_ ?_
        · refine ⟨?_, ?_, ?_, ?_, ?_, ?_⟩
          · simp [put_some, encI]
          · simp [put_some, argF_zero, argF_succ, encIs]
          · simp [put_some]
          · simp [put_some]
          · simp [set_g, encNet, encI, encIs]
          · simp [set_g, encNet, encI, encIs]
        · rintro i f S hi' ⟨e7, e2, e3, e4, g0, g1⟩
          simp only [encNet] at g0 g1
          by_cases hlt : i < l.length
          · obtain ⟨s1, s2⟩ := hst l[i]
            have hlr : Len (if rightN n = true then stepN n l l[i] else []) := by
              have := stpN_len n l l[i]
              unfold stpN at this
              unfold Len; omega
            have ii := hi _ _ hlr hlr
            rw [beq_self_eq_true] at ii
            generalize (if rightN n = true then stepN n l l[i] else []) = r at *
            have D1 := K s1 (cl_cons cn (cl_cons (closed_Is l) (cl_cons (closed_I _) cl_nil))) (closed_Is _)
            have D2 := K s2 (cl_cons cn (cl_cons (closed_Is l) (cl_cons (closed_I _) cl_nil))) (closed_Is _)
            have D3 := K ii (cl_cons (closed_Is r) (cl_cons (closed_Is r) cl_nil)) (closed_B _)
            simp [AW_seq, AW_reg, AW_regD, AW_block, AW_cond, AW_skip, AW_exit, AW_ret, AW_scp, condR_true, condR_false, AThen_normal, AThen_ret, AThen_exit, ABlock_normal, ABlock_ret, ABlock_exit, AScope_normal, AScope_ret, AScope_exit, RetK_ret, RetK_normal, retAV_one, retAV_two, retAV_three, retAV_nil, RG_nil, RG_op, RG_guard, gdR_tt, gdR_ff, gdR_tf, gdR_ft, gdR_un, RG_call, callQ_clo, contK_ap, opR_some, RD_nil, RD_op0, RD_op1, opD0_some, opD1_some, RD_call, callQD_clo, RD_guard, gdD_tt, gdD_ff, gdD_tf, gdD_ft, gdD_un, psh_nil, psh_cons, Apt_nil, Apt_nilT, Apt_true, Apt_false, Dis_def, runT_val, runT_rd, runT_wr, runT_new, runT_mv, ex, put_some, put_none, ev_t, ev_c, argF_zero, argF_succ, set_g, set_n, cells_v, cells_sl, cells_agg, cells_own, cells_ptr, cells_clo, cells_eptr, cells_mp, putc, exBslice, lfill, exField, exIdxV, exIdxP, exBox, exAlloc, exLoad, exStore, exFieldA, exIdxA, exLen, exPick, exUn, exBeq, exMM, exSeq, seqGo, exExt, binV, intOp, subc, AV.solid, S0, encI, encB, e7, e2, e3, e4, g0, g1, hlt, encIs]
            refine ⟨_, ⟨_, D1 _ _⟩, _, ⟨_, D2 _ _⟩, _, ⟨_, D3 _ _⟩, ?_⟩
            simp [AW_seq, AW_reg, AW_regD, AW_block, AW_cond, AW_skip, AW_exit, AW_ret, AW_scp, condR_true, condR_false, AThen_normal, AThen_ret, AThen_exit, ABlock_normal, ABlock_ret, ABlock_exit, AScope_normal, AScope_ret, AScope_exit, RetK_ret, RetK_normal, retAV_one, retAV_two, retAV_three, retAV_nil, RG_nil, RG_op, RG_guard, gdR_tt, gdR_ff, gdR_tf, gdR_ft, gdR_un, RG_call, callQ_clo, contK_ap, opR_some, RD_nil, RD_op0, RD_op1, opD0_some, opD1_some, RD_call, callQD_clo, RD_guard, gdD_tt, gdD_ff, gdD_tf, gdD_ft, gdD_un, psh_nil, psh_cons, Apt_nil, Apt_nilT, Apt_true, Apt_false, Dis_def, runT_val, runT_rd, runT_wr, runT_new, runT_mv, ex, put_some, put_none, ev_t, ev_c, argF_zero, argF_succ, set_g, set_n, cells_v, cells_sl, cells_agg, cells_own, cells_ptr, cells_clo, cells_eptr, cells_mp, putc, exBslice, lfill, exField, exIdxV, exIdxP, exBox, exAlloc, exLoad, exStore, exFieldA, exIdxA, exLen, exPick, exUn, exBeq, exMM, exSeq, seqGo, exExt, binV, intOp, subc, AV.solid, S0, encI, encB, e7]
            rw [wrap_in _ (by omega)]
            refine ⟨hlt, ?_, ?_, ?_, ?_, ?_, ?_⟩
            · simp [put_some, encI]
            · simp [put_some, e2]
            · simp [put_some, e3]
            · simp [put_some, e4]
            · simp [g0, encNet, encI, encIs]
            · simp [g1, encNet, encI, encIs]
          · have D1 := K k1 (cl_cons cn cl_nil) (closed_B _)
            have D2 := K k2 (cl_cons cn cl_nil) (closed_B _)
            have D3 := K k3 (cl_cons cn (cl_cons (closed_Is l) cl_nil)) (closed_B _)
            have D4 := K k4 (cl_cons cn (cl_cons (closed_Is l) cl_nil)) (closed_B _)
            have D5 := K (k5 m (.inr rfl)) (cl_cons cn (cl_cons cm cl_nil)) (closed_B _)
            have D6 := K k6 (cl_cons cn (cl_cons cm cl_nil)) (closed_B _)
            have k7 := k5 n (.inl rfl)
            rw [decide_eq_true (rfl : n = n)] at k7
            have D7 := K k7 (cl_cons cn (cl_cons cn cl_nil)) (closed_B _)
            simp [AW_seq, AW_reg, AW_regD, AW_block, AW_cond, AW_skip, AW_exit, AW_ret, AW_scp, condR_true, condR_false, AThen_normal, AThen_ret, AThen_exit, ABlock_normal, ABlock_ret, ABlock_exit, AScope_normal, AScope_ret, AScope_exit, RetK_ret, RetK_normal, retAV_one, retAV_two, retAV_three, retAV_nil, RG_nil, RG_op, RG_guard, gdR_tt, gdR_ff, gdR_tf, gdR_ft, gdR_un, RG_call, callQ_clo, contK_ap, opR_some, RD_nil, RD_op0, RD_op1, opD0_some, opD1_some, RD_call, callQD_clo, RD_guard, gdD_tt, gdD_ff, gdD_tf, gdD_ft, gdD_un, psh_nil, psh_cons, Apt_nil, Apt_nilT, Apt_true, Apt_false, Dis_def, runT_val, runT_rd, runT_wr, runT_new, runT_mv, ex, put_some, put_none, ev_t, ev_c, argF_zero, argF_succ, set_g, set_n, cells_v, cells_sl, cells_agg, cells_own, cells_ptr, cells_clo, cells_eptr, cells_mp, putc, exBslice, lfill, exField, exIdxV, exIdxP, exBox, exAlloc, exLoad, exStore, exFieldA, exIdxA, exLen, exPick, exUn, exBeq, exMM, exSeq, seqGo, exExt, binV, intOp, subc, AV.solid, S0, encI, encB, e7, e2, e3, e4, g0, g1, hlt, encIs]
            refine ⟨_, ⟨_, D1 _ _⟩, _, ⟨_, D2 _ _⟩, ?_⟩
            simp [AW_seq, AW_reg, AW_regD, AW_block, AW_cond, AW_skip, AW_exit, AW_ret, AW_scp, condR_true, condR_false, AThen_normal, AThen_ret, AThen_exit, ABlock_normal, ABlock_ret, ABlock_exit, AScope_normal, AScope_ret, AScope_exit, RetK_ret, RetK_normal, retAV_one, retAV_two, retAV_three, retAV_nil, RG_nil, RG_op, RG_guard, gdR_tt, gdR_ff, gdR_tf, gdR_ft, gdR_un, RG_call, callQ_clo, contK_ap, opR_some, RD_nil, RD_op0, RD_op1, opD0_some, opD1_some, RD_call, callQD_clo, RD_guard, gdD_tt, gdD_ff, gdD_tf, gdD_ft, gdD_un, psh_nil, psh_cons, Apt_nil, Apt_nilT, Apt_true, Apt_false, Dis_def, runT_val, runT_rd, runT_wr, runT_new, runT_mv, ex, put_some, put_none, ev_t, ev_c, argF_zero, argF_succ, set_g, set_n, cells_v, cells_sl, cells_agg, cells_own, cells_ptr, cells_clo, cells_eptr, cells_mp, putc, exBslice, lfill, exField, exIdxV, exIdxP, exBox, exAlloc, exLoad, exStore, exFieldA, exIdxA, exLen, exPick, exUn, exBeq, exMM, exSeq, seqGo, exExt, binV, intOp, subc, AV.solid, S0, encI, encB, e2, e3, e4, g0, g1, encIs]
            refine ⟨_, ⟨_, D3 _ _⟩, _, ⟨_, D4 _ _⟩, ?_⟩
            simp [AW_seq, AW_reg, AW_regD, AW_block, AW_cond, AW_skip, AW_exit, AW_ret, AW_scp, condR_true, condR_false, AThen_normal, AThen_ret, AThen_exit, ABlock_normal, ABlock_ret, ABlock_exit, AScope_normal, AScope_ret, AScope_exit, RetK_ret, RetK_normal, retAV_one, retAV_two, retAV_three, retAV_nil, RG_nil, RG_op, RG_guard, gdR_tt, gdR_ff, gdR_tf, gdR_ft, gdR_un, RG_call, callQ_clo, contK_ap, opR_some, RD_nil, RD_op0, RD_op1, opD0_some, opD1_some, RD_call, callQD_clo, RD_guard, gdD_tt, gdD_ff, gdD_tf, gdD_ft, gdD_un, psh_nil, psh_cons, Apt_nil, Apt_nilT, Apt_true, Apt_false, Dis_def, runT_val, runT_rd, runT_wr, runT_new, runT_mv, ex, put_some, put_none, ev_t, ev_c, argF_zero, argF_succ, set_g, set_n, cells_v, cells_sl, cells_agg, cells_own, cells_ptr, cells_clo, cells_eptr, cells_mp, putc, exBslice, lfill, exField, exIdxV, exIdxP, exBox, exAlloc, exLoad, exStore, exFieldA, exIdxA, exLen, exPick, exUn, exBeq, exMM, exSeq, seqGo, exExt, binV, intOp, subc, AV.solid, S0, encI, encB, e2, e3, e4, g0, g1, encIs]
            refine ⟨_, ⟨_, D5 _ _⟩, _, ⟨_, D6 _ _⟩, ?_⟩
            simp [AW_seq, AW_reg, AW_regD, AW_block, AW_cond, AW_skip, AW_exit, AW_ret, AW_scp, condR_true, condR_false, AThen_normal, AThen_ret, AThen_exit, ABlock_normal, ABlock_ret, ABlock_exit, AScope_normal, AScope_ret, AScope_exit, RetK_ret, RetK_normal, retAV_one, retAV_two, retAV_three, retAV_nil, RG_nil, RG_op, RG_guard, gdR_tt, gdR_ff, gdR_tf, gdR_ft, gdR_un, RG_call, callQ_clo, contK_ap, opR_some, RD_nil, RD_op0, RD_op1, opD0_some, opD1_some, RD_call, callQD_clo, RD_guard, gdD_tt, gdD_ff, gdD_tf, gdD_ft, gdD_un, psh_nil, psh_cons, Apt_nil, Apt_nilT, Apt_true, Apt_false, Dis_def, runT_val, runT_rd, runT_wr, runT_new, runT_mv, ex, put_some, put_none, ev_t, ev_c, argF_zero, argF_succ, set_g, set_n, cells_v, cells_sl, cells_agg, cells_own, cells_ptr, cells_clo, cells_eptr, cells_mp, putc, exBslice, lfill, exField, exIdxV, exIdxP, exBox, exAlloc, exLoad, exStore, exFieldA, exIdxA, exLen, exPick, exUn, exBeq, exMM, exSeq, seqGo, exExt, binV, intOp, subc, AV.solid, S0, encI, encB, e2, e3, e4, g0, g1, encIs]
            refine ⟨_, ⟨_, D7 _ _⟩, ?_⟩
            simp [AW_seq, AW_reg, AW_regD, AW_block, AW_cond, AW_skip, AW_exit, AW_ret, AW_scp, condR_true, condR_false, AThen_normal, AThen_ret, AThen_exit, ABlock_normal, ABlock_ret, ABlock_exit, AScope_normal, AScope_ret, AScope_exit, RetK_ret, RetK_normal, retAV_one, retAV_two, retAV_three, retAV_nil, RG_nil, RG_op, RG_guard, gdR_tt, gdR_ff, gdR_tf, gdR_ft, gdR_un, RG_call, callQ_clo, contK_ap, opR_some, RD_nil, RD_op0, RD_op1, opD0_some, opD1_some, RD_call, callQD_clo, RD_guard, gdD_tt, gdD_ff, gdD_tf, gdD_ft, gdD_un, psh_nil, psh_cons, Apt_nil, Apt_nilT, Apt_true, Apt_false, Dis_def, runT_val, runT_rd, runT_wr, runT_new, runT_mv, ex, put_some, put_none, ev_t, ev_c, argF_zero, argF_succ, set_g, set_n, cells_v, cells_sl, cells_agg, cells_own, cells_ptr, cells_clo, cells_eptr, cells_mp, putc, exBslice, lfill, exField, exIdxV, exIdxP, exBox, exAlloc, exLoad, exStore, exFieldA, exIdxA, exLen, exPick, exUn, exBeq, exMM, exSeq, seqGo, exExt, binV, intOp, subc, AV.solid, S0, encI, encB]
            exact FzK_B true _
end Go.Rf

