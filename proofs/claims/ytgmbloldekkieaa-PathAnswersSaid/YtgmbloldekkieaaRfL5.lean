import Derived.Test.YtgmbloldekkieaaRfB12
import Derived.Test.YtgmbloldekkieaaRfL6b
set_option linter.unusedVariables false
set_option linter.unusedSimpArgs false
namespace Go.Rf
def c_pm_tail (f_caesuraref18_Write f_caesuraref15_Accepts f_caesuraref18_Before f_caesuraref01_Ints : FuncId) : AC :=
  (.seq (.seq (.reg none [
   ⟨(some 50), .mv (.t 9), none, none⟩,
   ⟨(some 51), .un .not (.t 50), none, none⟩])
  (.cond (.t 51) (.seq (.reg none [
    ⟨(some 52), .mv (.t 7), none, none⟩,
    ⟨(some 53), .len (.t 52), none, none⟩,
    ⟨(some 54), .bin .eql (.t 53) (.c (.v (.int .i64 0))), none, none⟩,
    ⟨(some 55), .mv (.t 54), none, none⟩,
    ⟨(some 56), .mv (.t 8), (some (55, true)), none⟩,
    ⟨(some 57), .bin .eql (.t 56) (.c (.v (.int .i64 0))), (some (55, true)), none⟩,
    ⟨(some 58), .pick (.t 55) (.t 57) (.c (.v (.bool false))), none, none⟩,
    ⟨(some 59), .mv (.t 58), none, none⟩,
    ⟨(some 60), .mv (.t 11), (some (59, true)), none⟩,
    ⟨(some 61), .un .not (.t 60), (some (59, true)), none⟩,
    ⟨(some 62), .pick (.t 59) (.t 61) (.c (.v (.bool false))), none, none⟩,
    ⟨(some 6), .mv (.t 62), none, none⟩])
   .ret) .skip))
  (.seq (.seq (.reg (some []) [
   ⟨(some 63), .mv (.t 8), none, none⟩,
   ⟨(some 64), .bin .lss (.t 63) (.c (.v (.int .i64 1))), none, none⟩,
   ⟨(some 65), .mv (.t 64), none, none⟩,
   ⟨(some 66), .mv (.t 8), (some (65, false)), none⟩,
   ⟨(some 67), .mv (.t 7), (some (65, false)), none⟩,
   ⟨(some 68), .len (.t 67), (some (65, false)), none⟩,
   ⟨(some 69), .bin .geq (.t 66) (.t 68), (some (65, false)), none⟩,
   ⟨(some 70), .pick (.t 65) (.c (.v (.bool true))) (.t 69), none, none⟩,
   ⟨(some 71), .mv (.t 70), none, none⟩,
   ⟨(some 72), .load (some 3) (.t 3), (some (71, false)), none⟩,
   ⟨(some 73), .mv (.t 7), (some (71, false)), none⟩,
   ⟨(some 74), .mv (.t 8), (some (71, false)), none⟩,
   ⟨(some 75), .mv (.c .junk), (some (71, false)), (some ((.c (.clo f_caesuraref18_Write [] [])), [(.t 73), (.t 74)]))⟩,
   ⟨(some 76), .mv (.c .junk), (some (71, false)), (some ((.c (.clo f_caesuraref15_Accepts [] [])), [(.t 72), (.t 75)]))⟩,
   ⟨(some 77), .un .not (.t 76), (some (71, false)), none⟩,
   ⟨(some 78), .pick (.t 71) (.c (.v (.bool true))) (.t 77), none, none⟩])
  (.cond (.t 78) (.seq (.reg none [
    ⟨(some 6), .mv (.c (.v (.bool false))), none, none⟩])
   .ret) .skip))
  (.seq (.reg none [
   ⟨(some 79), .mv (.t 11), none, none⟩,
   ⟨(some 80), .un .not (.t 79), none, none⟩,
   ⟨(some 81), .mv (.t 80), none, none⟩,
   ⟨(some 82), .mv (.t 7), (some (81, false)), none⟩,
   ⟨(some 83), .mv (.t 1), (some (81, false)), none⟩,
   ⟨(some 84), .mv (.c .junk), (some (81, false)), (some ((.c (.clo f_caesuraref18_Before [] [])), [(.t 82), (.t 83)]))⟩,
   ⟨(some 85), .pick (.t 81) (.c (.v (.bool true))) (.t 84), none, none⟩,
   ⟨(some 86), .mv (.t 85), none, none⟩,
   ⟨(some 87), .mv (.t 7), (some (86, false)), none⟩,
   ⟨(some 88), .mv (.t 1), (some (86, false)), none⟩,
   ⟨(some 89), .mv (.c .junk), (some (86, false)), (some ((.c (.clo f_caesuraref01_Ints [] [])), [(.t 87), (.t 88)]))⟩,
   ⟨(some 90), .mv (.t 89), (some (86, false)), none⟩,
   ⟨(some 91), .mv (.t 8), (some (90, true)), none⟩,
   ⟨(some 92), .mv (.t 2), (some (90, true)), none⟩,
   ⟨(some 93), .conv .i64 (.t 92), (some (90, true)), none⟩,
   ⟨(some 94), .bin .leq (.t 91) (.t 93), (some (90, true)), none⟩,
   ⟨(some 95), .pick (.t 90) (.t 94) (.c (.v (.bool false))), (some (86, false)), none⟩,
   ⟨(some 96), .pick (.t 86) (.c (.v (.bool true))) (.t 95), none, none⟩,
   ⟨(some 6), .mv (.t 96), none, none⟩])
  .ret)))
def c_caesuralaw18_PathMarked (f_caesuralaw18_alive f_caesuraref15_Great f_caesuraref15_Right f_path_Marked f_caesuraref18_Write f_caesuraref15_Accepts f_caesuraref18_Before f_caesuraref01_Ints : FuncId) : AC :=
  (.seq (.reg none [
   ⟨(some 3), .box 3 (.t 0), none, none⟩,
   ⟨(some 6), .mv (.c (.v (.bool false))), none, none⟩])
  (.seq (.seq (.reg none [
   ⟨(some 12), .mv (.c .junk), none, (some ((.c (.clo f_caesuralaw18_alive [] [])), []))⟩,
   ⟨(some 13), .un .not (.t 12), none, none⟩])
  (.cond (.t 13) (.seq (.reg none [
    ⟨(some 6), .mv (.c (.v (.bool false))), none, none⟩])
   .ret) .skip))
  (.seq (.seq (.reg none [
   ⟨(some 14), .load (some 3) (.t 3), none, none⟩,
   ⟨(some 15), .mv (.c .junk), none, (some ((.c (.clo f_caesuraref15_Great [] [])), [(.t 14), (.c (.v (.int .i64 300)))]))⟩,
   ⟨(some 16), .mv (.t 15), none, none⟩,
   ⟨(some 17), .mv (.t 1), (some (16, false)), none⟩,
   ⟨(some 18), .len (.t 17), (some (16, false)), none⟩,
   ⟨(some 19), .bin .gtr (.t 18) (.c (.v (.int .i64 30))), (some (16, false)), none⟩,
   ⟨(some 20), .pick (.t 16) (.c (.v (.bool true))) (.t 19), none, none⟩,
   ⟨(some 21), .mv (.t 20), none, none⟩,
   ⟨(some 22), .load (some 3) (.t 3), (some (21, false)), none⟩,
   ⟨(some 23), .mv (.c .junk), (some (21, false)), (some ((.c (.clo f_caesuraref15_Right [] [])), [(.t 22)]))⟩,
   ⟨(some 24), .un .not (.t 23), (some (21, false)), none⟩,
   ⟨(some 25), .pick (.t 21) (.c (.v (.bool true))) (.t 24), none, none⟩,
   ⟨(some 26), .mv (.t 25), none, none⟩,
   ⟨(some 27), .fieldA 0 (.t 3), (some (26, false)), none⟩,
   ⟨(some 28), .load none (.t 27), (some (26, false)), none⟩,
   ⟨(some 29), .bin .rem (.t 28) (.c (.v (.int .i64 2))), (some (26, false)), none⟩,
   ⟨(some 30), .bin .neq (.t 29) (.c (.v (.int .i64 0))), (some (26, false)), none⟩,
   ⟨(some 31), .pick (.t 26) (.c (.v (.bool true))) (.t 30), none, none⟩])
  (.cond (.t 31) (.seq (.reg none [
    ⟨(some 6), .mv (.c (.v (.bool true))), none, none⟩])
   .ret) .skip))
  (.seq (.reg none [
   ⟨(some 33), .load (some 3) (.t 3), none, none⟩,
   ⟨(some 34), .mv (.c .junk), none, (some ((.c (.clo f_path_Marked [] [])), [(.t 33)]))⟩,
   ⟨(some 32), .mv (.t 34), none, none⟩,
   ⟨(some 35), .ext 0 (.t 32), none, none⟩,
   ⟨(some 36), .ext 1 (.t 32), none, none⟩,
   ⟨(some 37), .ext 2 (.t 32), none, none⟩,
   ⟨(some 7), .mv (.t 35), none, none⟩,
   ⟨(some 8), .mv (.t 36), none, none⟩,
   ⟨(some 9), .mv (.t 37), none, none⟩])
  (.seq (.reg none [
   ⟨(some 38), .mv (.t 1), none, none⟩,
   ⟨(some 39), .mv (.t 2), none, none⟩,
   ⟨(some 40), .conv .i64 (.t 39), none, none⟩,
   ⟨(some 41), .mv (.c .junk), none, (some ((.c (.clo f_caesuraref18_Write [] [])), [(.t 38), (.t 40)]))⟩,
   ⟨(some 10), .mv (.t 41), none, none⟩])
  (.seq (.reg none [
   ⟨(some 42), .mv (.t 10), none, none⟩,
   ⟨(some 43), .len (.t 42), none, none⟩,
   ⟨(some 44), .bin .gtr (.t 43) (.c (.v (.int .i64 0))), none, none⟩,
   ⟨(some 45), .mv (.t 44), none, none⟩,
   ⟨(some 46), .load (some 3) (.t 3), (some (45, true)), none⟩,
   ⟨(some 47), .mv (.t 10), (some (45, true)), none⟩,
   ⟨(some 48), .mv (.c .junk), (some (45, true)), (some ((.c (.clo f_caesuraref15_Accepts [] [])), [(.t 46), (.t 47)]))⟩,
   ⟨(some 49), .pick (.t 45) (.t 48) (.c (.v (.bool false))), none, none⟩,
   ⟨(some 11), .mv (.t 49), none, none⟩])
  (c_pm_tail f_caesuraref18_Write f_caesuraref15_Accepts f_caesuraref18_Before f_caesuraref01_Ints)))))))

theorem CallD.cl {P : Program} {f : FuncId} {args : List AV} {r : AV} {S : St} (h : PureC P f args r) (hc : ∀ x ∈ args, Closed x) (hr : Closed r) : CallD P f args S [] r :=
  ⟨args, h, rfl, fun j h1 _ => .closed _ (hc _ (List.getElem_mem h1)), .inr (.inl ⟨rfl, hr⟩)⟩
theorem closed_M (l : List Int) (p : Int) (b : Bool) : Closed (.tup [encIs l, encI p, encB b]) := .tup _ (by
  intro y hy
  simp only [List.mem_cons, List.not_mem_nil, or_false] at hy
  rcases hy with rfl | rfl | rfl
  · exact closed_Is _
  · exact closed_I _
  · exact closed_B _)
theorem mark_len {d : Det} (R : RightD d) : (markS d).length ≤ 9000 := by
  unfold markS
  split
  · rw [markFrom_length]
    have fo := farS_ok (pg d)
    have := fo.lt 0 (by have := pg_n d; have := R.n1; omega)
    have h2 := pg_n d
    have h3 := R.n2
    have : rd (farP d) 0 < (pg d).n := this
    omega
  · simp
theorem pm_tail {P : Program} {fw fa fb fi : FuncId} {d : Det} (R : RightD d) (hev : d.signs % 2 = 0) {signs : List Int} {pl : Nat} (hpl : pl ≤ 255) (hso : signs.length ≤ 30) (hw : ∀ (s : List Int) (p : Int), s.length ≤ 1000000 → PureC P fw [encIs s, encI p] (encIs (writeS s p))) (ha : ∀ l, Len l → PureC P fa [encDet d, encIs l] (encB (accD d l)))
    (hb : ∀ a b, Len a → Len b → PureC P fb [encIs a, encIs b] (encB (beforeS a b))) (hi : ∀ a b, Len a → Len b → PureC P fi [encIs a, encIs b] (encB (a == b))) (is : Bool) (his : is = true → writeS signs pl ≠ [] ∧ accD d (writeS signs pl) = true)
    {f : AF} {S : St} (e1 : f 1 = encIs signs) (e2 : f 2 = .v (.int .u8 pl)) (e3 : f 3 = .ptr 0 0 0) (e7 : f 7 = encIs (markS d)) (e8 : f 8 = encI (markP d)) (e9 : f 9 = encB (markOk d)) (e11 : f 11 = encB is) (g0 : S.g 0 = some (.arr 3 [encDet d])) :
    AW P (c_pm_tail fw fa fb fi) (RetK [6] (FzK (encB true))) f S := by
  have hml := mark_len R
  have hls : Len (markS d) := by unfold Len; omega
  have hlo : Len signs := by unfold Len; omega
  have hcv : IntKind.i64.wrap (pl : Int) = (pl : Int) := wrap_in _ (by omega)
  cases hok : markOk d with
  | false =>
    obtain ⟨h1, h2⟩ := mark_no hok
    have his' : is = false := by
      cases is with
      | false => rfl
      | true =>
        obtain ⟨q1, q2⟩ := his rfl
        have := (mark_law R hev q1 q2).1
        rw [hok] at this; cases this
    rw [h1] at e7; rw [h2] at e8; rw [hok] at e9; rw [his'] at e11
    simp [AW_seq, AW_reg, AW_regD, AW_block, AW_cond, AW_skip, AW_exit, AW_ret, AW_scp, condR_true, condR_false, AThen_normal, AThen_ret, AThen_exit, ABlock_normal, ABlock_ret, ABlock_exit, AScope_normal, AScope_ret, AScope_exit, RetK_ret, RetK_normal, retAV_one, retAV_two, retAV_three, retAV_nil, RG_nil, RG_op, RG_guard, gdR_tt, gdR_ff, gdR_tf, gdR_ft, gdR_un, RG_call, callQ_clo, contK_ap, opR_some, RD_nil, RD_op0, RD_op1, opD0_some, opD1_some, RD_call, callQD_clo, RD_guard, gdD_tt, gdD_ff, gdD_tf, gdD_ft, gdD_un, psh_nil, psh_cons, Apt_nil, Apt_nilT, Apt_true, Apt_false, Dis_def, runT_val, runT_rd, runT_wr, runT_new, runT_mv, ex, put_some, put_none, ev_t, ev_c, argF_zero, argF_succ, set_g, set_n, cells_v, cells_sl, cells_agg, cells_own, cells_ptr, cells_clo, cells_eptr, cells_mp, putc, exBslice, lfill, exField, exIdxV, exIdxP, exBox, exAlloc, exLoad, exStore, exFieldA, exIdxA, exLen, exPick, exUn, exBeq, exMM, exSeq, seqGo, exExt, binV, intOp, subc, AV.solid, S0, encI, encB, c_pm_tail, e7, e8, e9, e11, encIs]
    exact FzK_B true _
  | true =>
    obtain ⟨p0, hp0⟩ := mark_first R hev hok
    have hpf := markP_first ⟨p0, hp0⟩
    have hlo1 := hpf.lo
    have hhi := hpf.hi
    have c1 : ¬ ((markP d : Nat) : Int) < 1 := by omega
    have c2 : ¬ ((markS d).length : Int) ≤ (markP d : Nat) := by omega
    have c3 : ¬ (markP d = 0) := by omega
    have c4 : ¬ ((markS d).length ≤ markP d) := by omega
    have hwl : (writeS (markS d) (markP d)).length ≤ (markS d).length := by unfold writeS; split <;> simp [wrL_length]
    have hacc := ha (writeS (markS d) (markP d)) (by unfold Len; omega)
    rw [hpf.acc] at hacc
    rw [hok] at e9
    have hd1 : ∀ n g, CallD P fw [.sl false ((markS d).map encI), .v (.int .i64 (markP d))] ⟨n, g⟩ [] (encIs (writeS (markS d) (markP d))) := fun n g => CallD.cl (hw (markS d) (markP d) (by omega)) (cl_cons (closed_Is _) (cl_cons (closed_I _) cl_nil)) (closed_Is _)
    have hd2 : ∀ n g, CallD P fa [.agg [.v (.int .i64 d.signs), encIss d.next, encBs d.fin], encIs (writeS (markS d) (markP d))] ⟨n, g⟩ [] (encB true) := fun n g => CallD.cl hacc (cl_cons (closed_Det d) (cl_cons (closed_Is _) cl_nil)) (closed_B _)
    simp [AW_seq, AW_reg, AW_regD, AW_block, AW_cond, AW_skip, AW_exit, AW_ret, AW_scp, condR_true, condR_false, AThen_normal, AThen_ret, AThen_exit, ABlock_normal, ABlock_ret, ABlock_exit, AScope_normal, AScope_ret, AScope_exit, RetK_ret, RetK_normal, retAV_one, retAV_two, retAV_three, retAV_nil, RG_nil, RG_op, RG_guard, gdR_tt, gdR_ff, gdR_tf, gdR_ft, gdR_un, RG_call, callQ_clo, contK_ap, opR_some, RD_nil, RD_op0, RD_op1, opD0_some, opD1_some, RD_call, callQD_clo, RD_guard, gdD_tt, gdD_ff, gdD_tf, gdD_ft, gdD_un, psh_nil, psh_cons, Apt_nil, Apt_nilT, Apt_true, Apt_false, Dis_def, runT_val, runT_rd, runT_wr, runT_new, runT_mv, ex, put_some, put_none, ev_t, ev_c, argF_zero, argF_succ, set_g, set_n, cells_v, cells_sl, cells_agg, cells_own, cells_ptr, cells_clo, cells_eptr, cells_mp, putc, exBslice, lfill, exField, exIdxV, exIdxP, exBox, exAlloc, exLoad, exStore, exFieldA, exIdxA, exLen, exPick, exUn, exBeq, exMM, exSeq, seqGo, exExt, binV, intOp, subc, AV.solid, S0, encI, encB, c_pm_tail, e3, e7, e8, e9, encIs, c1, c2, c3, c4, g0, encDet]
    refine ⟨_, ⟨_, hd1 _ _⟩, _, ⟨_, hd2 _ _⟩, ?_⟩
    cases is with
    | false =>
      simp [AW_seq, AW_reg, AW_regD, AW_block, AW_cond, AW_skip, AW_exit, AW_ret, AW_scp, condR_true, condR_false, AThen_normal, AThen_ret, AThen_exit, ABlock_normal, ABlock_ret, ABlock_exit, AScope_normal, AScope_ret, AScope_exit, RetK_ret, RetK_normal, retAV_one, retAV_two, retAV_three, retAV_nil, RG_nil, RG_op, RG_guard, gdR_tt, gdR_ff, gdR_tf, gdR_ft, gdR_un, RG_call, callQ_clo, contK_ap, opR_some, RD_nil, RD_op0, RD_op1, opD0_some, opD1_some, RD_call, callQD_clo, RD_guard, gdD_tt, gdD_ff, gdD_tf, gdD_ft, gdD_un, psh_nil, psh_cons, Apt_nil, Apt_nilT, Apt_true, Apt_false, Dis_def, runT_val, runT_rd, runT_wr, runT_new, runT_mv, ex, put_some, put_none, ev_t, ev_c, argF_zero, argF_succ, set_g, set_n, cells_v, cells_sl, cells_agg, cells_own, cells_ptr, cells_clo, cells_eptr, cells_mp, putc, exBslice, lfill, exField, exIdxV, exIdxP, exBox, exAlloc, exLoad, exStore, exFieldA, exIdxA, exLen, exPick, exUn, exBeq, exMM, exSeq, seqGo, exExt, binV, intOp, subc, AV.solid, S0, encI, encB, e11]
      exact FzK_B true _
    | true =>
      obtain ⟨q1, q2⟩ := his rfl
      rcases (mark_law R hev q1 q2).2 _ hpf with hbf | ⟨heq, hle⟩
      · have hcb := hb _ _ hls hlo
        rw [hbf] at hcb
        simp [AW_seq, AW_reg, AW_regD, AW_block, AW_cond, AW_skip, AW_exit, AW_ret, AW_scp, condR_true, condR_false, AThen_normal, AThen_ret, AThen_exit, ABlock_normal, ABlock_ret, ABlock_exit, AScope_normal, AScope_ret, AScope_exit, RetK_ret, RetK_normal, retAV_one, retAV_two, retAV_three, retAV_nil, RG_nil, RG_op, RG_guard, gdR_tt, gdR_ff, gdR_tf, gdR_ft, gdR_un, RG_call, callQ_clo, contK_ap, opR_some, RD_nil, RD_op0, RD_op1, opD0_some, opD1_some, RD_call, callQD_clo, RD_guard, gdD_tt, gdD_ff, gdD_tf, gdD_ft, gdD_un, psh_nil, psh_cons, Apt_nil, Apt_nilT, Apt_true, Apt_false, Dis_def, runT_val, runT_rd, runT_wr, runT_new, runT_mv, ex, put_some, put_none, ev_t, ev_c, argF_zero, argF_succ, set_g, set_n, cells_v, cells_sl, cells_agg, cells_own, cells_ptr, cells_clo, cells_eptr, cells_mp, putc, exBslice, lfill, exField, exIdxV, exIdxP, exBox, exAlloc, exLoad, exStore, exFieldA, exIdxA, exLen, exPick, exUn, exBeq, exMM, exSeq, seqGo, exExt, binV, intOp, subc, AV.solid, S0, encI, encB, e11, e7, e1, encIs]
        refine CallR.pure hcb (cl_cons (closed_Is _) (cl_cons (closed_Is _) cl_nil)) (closed_B _) ?_
        simp [AW_seq, AW_reg, AW_regD, AW_block, AW_cond, AW_skip, AW_exit, AW_ret, AW_scp, condR_true, condR_false, AThen_normal, AThen_ret, AThen_exit, ABlock_normal, ABlock_ret, ABlock_exit, AScope_normal, AScope_ret, AScope_exit, RetK_ret, RetK_normal, retAV_one, retAV_two, retAV_three, retAV_nil, RG_nil, RG_op, RG_guard, gdR_tt, gdR_ff, gdR_tf, gdR_ft, gdR_un, RG_call, callQ_clo, contK_ap, opR_some, RD_nil, RD_op0, RD_op1, opD0_some, opD1_some, RD_call, callQD_clo, RD_guard, gdD_tt, gdD_ff, gdD_tf, gdD_ft, gdD_un, psh_nil, psh_cons, Apt_nil, Apt_nilT, Apt_true, Apt_false, Dis_def, runT_val, runT_rd, runT_wr, runT_new, runT_mv, ex, put_some, put_none, ev_t, ev_c, argF_zero, argF_succ, set_g, set_n, cells_v, cells_sl, cells_agg, cells_own, cells_ptr, cells_clo, cells_eptr, cells_mp, putc, exBslice, lfill, exField, exIdxV, exIdxP, exBox, exAlloc, exLoad, exStore, exFieldA, exIdxA, exLen, exPick, exUn, exBeq, exMM, exSeq, seqGo, exExt, binV, intOp, subc, AV.solid, S0, encI, encB]
        exact FzK_B true _
      · have hcb := hb _ _ hls hlo
        have hbs : beforeS (markS d) signs = false := by rw [heq]; exact beforeS_self _
        rw [hbs] at hcb
        have hci := hi _ _ hls hlo
        have hii : (markS d == signs) = true := by rw [heq]; simp
        rw [hii] at hci
        simp [AW_seq, AW_reg, AW_regD, AW_block, AW_cond, AW_skip, AW_exit, AW_ret, AW_scp, condR_true, condR_false, AThen_normal, AThen_ret, AThen_exit, ABlock_normal, ABlock_ret, ABlock_exit, AScope_normal, AScope_ret, AScope_exit, RetK_ret, RetK_normal, retAV_one, retAV_two, retAV_three, retAV_nil, RG_nil, RG_op, RG_guard, gdR_tt, gdR_ff, gdR_tf, gdR_ft, gdR_un, RG_call, callQ_clo, contK_ap, opR_some, RD_nil, RD_op0, RD_op1, opD0_some, opD1_some, RD_call, callQD_clo, RD_guard, gdD_tt, gdD_ff, gdD_tf, gdD_ft, gdD_un, psh_nil, psh_cons, Apt_nil, Apt_nilT, Apt_true, Apt_false, Dis_def, runT_val, runT_rd, runT_wr, runT_new, runT_mv, ex, put_some, put_none, ev_t, ev_c, argF_zero, argF_succ, set_g, set_n, cells_v, cells_sl, cells_agg, cells_own, cells_ptr, cells_clo, cells_eptr, cells_mp, putc, exBslice, lfill, exField, exIdxV, exIdxP, exBox, exAlloc, exLoad, exStore, exFieldA, exIdxA, exLen, exPick, exUn, exBeq, exMM, exSeq, seqGo, exExt, binV, intOp, subc, AV.solid, S0, encI, encB, e11, e7, e1, encIs]
        refine CallR.pure hcb (cl_cons (closed_Is _) (cl_cons (closed_Is _) cl_nil)) (closed_B _) ?_
        simp [AW_seq, AW_reg, AW_regD, AW_block, AW_cond, AW_skip, AW_exit, AW_ret, AW_scp, condR_true, condR_false, AThen_normal, AThen_ret, AThen_exit, ABlock_normal, ABlock_ret, ABlock_exit, AScope_normal, AScope_ret, AScope_exit, RetK_ret, RetK_normal, retAV_one, retAV_two, retAV_three, retAV_nil, RG_nil, RG_op, RG_guard, gdR_tt, gdR_ff, gdR_tf, gdR_ft, gdR_un, RG_call, callQ_clo, contK_ap, opR_some, RD_nil, RD_op0, RD_op1, opD0_some, opD1_some, RD_call, callQD_clo, RD_guard, gdD_tt, gdD_ff, gdD_tf, gdD_ft, gdD_un, psh_nil, psh_cons, Apt_nil, Apt_nilT, Apt_true, Apt_false, Dis_def, runT_val, runT_rd, runT_wr, runT_new, runT_mv, ex, put_some, put_none, ev_t, ev_c, argF_zero, argF_succ, set_g, set_n, cells_v, cells_sl, cells_agg, cells_own, cells_ptr, cells_clo, cells_eptr, cells_mp, putc, exBslice, lfill, exField, exIdxV, exIdxP, exBox, exAlloc, exLoad, exStore, exFieldA, exIdxA, exLen, exPick, exUn, exBeq, exMM, exSeq, seqGo, exExt, binV, intOp, subc, AV.solid, S0, encI, encB, e7, e1, encIs]
        refine CallR.pure hci (cl_cons (closed_Is _) (cl_cons (closed_Is _) cl_nil)) (closed_B _) ?_
        simp [AW_seq, AW_reg, AW_regD, AW_block, AW_cond, AW_skip, AW_exit, AW_ret, AW_scp, condR_true, condR_false, AThen_normal, AThen_ret, AThen_exit, ABlock_normal, ABlock_ret, ABlock_exit, AScope_normal, AScope_ret, AScope_exit, RetK_ret, RetK_normal, retAV_one, retAV_two, retAV_three, retAV_nil, RG_nil, RG_op, RG_guard, gdR_tt, gdR_ff, gdR_tf, gdR_ft, gdR_un, RG_call, callQ_clo, contK_ap, opR_some, RD_nil, RD_op0, RD_op1, opD0_some, opD1_some, RD_call, callQD_clo, RD_guard, gdD_tt, gdD_ff, gdD_tf, gdD_ft, gdD_un, psh_nil, psh_cons, Apt_nil, Apt_nilT, Apt_true, Apt_false, Dis_def, runT_val, runT_rd, runT_wr, runT_new, runT_mv, ex, put_some, put_none, ev_t, ev_c, argF_zero, argF_succ, set_g, set_n, cells_v, cells_sl, cells_agg, cells_own, cells_ptr, cells_clo, cells_eptr, cells_mp, putc, exBslice, lfill, exField, exIdxV, exIdxP, exBox, exAlloc, exLoad, exStore, exFieldA, exIdxA, exLen, exPick, exUn, exBeq, exMM, exSeq, seqGo, exExt, binV, intOp, subc, AV.solid, S0, encI, encB, e8, e2, exConv, hcv, hle]
        exact FzK_B true _
theorem caesuralaw18_PathMarked_body {P : Program} {fl fg fr fm fw fa fb fi : FuncId} (d : Det) (signs : List Int) (pl : Nat) (hpl : pl ≤ 255) (hl : PureC P fl [] (encB true)) (gb : Bool) (hg : PureC P fg [encDet d, encI 300] (encB gb)) (hr : PureC P fr [encDet d] (encB (rightD d)))
    (hm : PureC P fm [encDet d] (.tup [encIs (markS d), encI (markP d), encB (markOk d)])) (hw : ∀ (s : List Int) (p : Int), s.length ≤ 1000000 → PureC P fw [encIs s, encI p] (encIs (writeS s p))) (ha : ∀ l, Len l → PureC P fa [encDet d, encIs l] (encB (accD d l)))
    (hb : ∀ a b, Len a → Len b → PureC P fb [encIs a, encIs b] (encB (beforeS a b))) (hi : ∀ a b, Len a → Len b → PureC P fi [encIs a, encIs b] (encB (a == b))) :
    AW P (c_caesuralaw18_PathMarked fl fg fr fm fw fa fb fi) (RetK [6] (FzK (encB true))) (argF [encDet d, encIs signs, .v (.int .u8 pl)]) S0 := by
  simp [AW_seq, AW_reg, AW_regD, AW_block, AW_cond, AW_skip, AW_exit, AW_ret, AW_scp, condR_true, condR_false, AThen_normal, AThen_ret, AThen_exit, ABlock_normal, ABlock_ret, ABlock_exit, AScope_normal, AScope_ret, AScope_exit, RetK_ret, RetK_normal, retAV_one, retAV_two, retAV_three, retAV_nil, RG_nil, RG_op, RG_guard, gdR_tt, gdR_ff, gdR_tf, gdR_ft, gdR_un, RG_call, callQ_clo, contK_ap, opR_some, RD_nil, RD_op0, RD_op1, opD0_some, opD1_some, RD_call, callQD_clo, RD_guard, gdD_tt, gdD_ff, gdD_tf, gdD_ft, gdD_un, psh_nil, psh_cons, Apt_nil, Apt_nilT, Apt_true, Apt_false, Dis_def, runT_val, runT_rd, runT_wr, runT_new, runT_mv, ex, put_some, put_none, ev_t, ev_c, argF_zero, argF_succ, set_g, set_n, cells_v, cells_sl, cells_agg, cells_own, cells_ptr, cells_clo, cells_eptr, cells_mp, putc, exBslice, lfill, exField, exIdxV, exIdxP, exBox, exAlloc, exLoad, exStore, exFieldA, exIdxA, exLen, exPick, exUn, exBeq, exMM, exSeq, seqGo, exExt, binV, intOp, subc, AV.solid, S0, encI, encB, c_caesuralaw18_PathMarked, encDet]
  refine CallR.pure hl cl_nil (closed_B _) ?_
  simp [AW_seq, AW_reg, AW_regD, AW_block, AW_cond, AW_skip, AW_exit, AW_ret, AW_scp, condR_true, condR_false, AThen_normal, AThen_ret, AThen_exit, ABlock_normal, ABlock_ret, ABlock_exit, AScope_normal, AScope_ret, AScope_exit, RetK_ret, RetK_normal, retAV_one, retAV_two, retAV_three, retAV_nil, RG_nil, RG_op, RG_guard, gdR_tt, gdR_ff, gdR_tf, gdR_ft, gdR_un, RG_call, callQ_clo, contK_ap, opR_some, RD_nil, RD_op0, RD_op1, opD0_some, opD1_some, RD_call, callQD_clo, RD_guard, gdD_tt, gdD_ff, gdD_tf, gdD_ft, gdD_un, psh_nil, psh_cons, Apt_nil, Apt_nilT, Apt_true, Apt_false, Dis_def, runT_val, runT_rd, runT_wr, runT_new, runT_mv, ex, put_some, put_none, ev_t, ev_c, argF_zero, argF_succ, set_g, set_n, cells_v, cells_sl, cells_agg, cells_own, cells_ptr, cells_clo, cells_eptr, cells_mp, putc, exBslice, lfill, exField, exIdxV, exIdxP, exBox, exAlloc, exLoad, exStore, exFieldA, exIdxA, exLen, exPick, exUn, exBeq, exMM, exSeq, seqGo, exExt, binV, intOp, subc, AV.solid, S0, encI, encB]
  refine CallR.pure hg (cl_cons (closed_Det d) (cl_cons (closed_I _) cl_nil)) (closed_B _) ?_
  cases gb with
  | true =>
    simp [AW_seq, AW_reg, AW_regD, AW_block, AW_cond, AW_skip, AW_exit, AW_ret, AW_scp, condR_true, condR_false, AThen_normal, AThen_ret, AThen_exit, ABlock_normal, ABlock_ret, ABlock_exit, AScope_normal, AScope_ret, AScope_exit, RetK_ret, RetK_normal, retAV_one, retAV_two, retAV_three, retAV_nil, RG_nil, RG_op, RG_guard, gdR_tt, gdR_ff, gdR_tf, gdR_ft, gdR_un, RG_call, callQ_clo, contK_ap, opR_some, RD_nil, RD_op0, RD_op1, opD0_some, opD1_some, RD_call, callQD_clo, RD_guard, gdD_tt, gdD_ff, gdD_tf, gdD_ft, gdD_un, psh_nil, psh_cons, Apt_nil, Apt_nilT, Apt_true, Apt_false, Dis_def, runT_val, runT_rd, runT_wr, runT_new, runT_mv, ex, put_some, put_none, ev_t, ev_c, argF_zero, argF_succ, set_g, set_n, cells_v, cells_sl, cells_agg, cells_own, cells_ptr, cells_clo, cells_eptr, cells_mp, putc, exBslice, lfill, exField, exIdxV, exIdxP, exBox, exAlloc, exLoad, exStore, exFieldA, exIdxA, exLen, exPick, exUn, exBeq, exMM, exSeq, seqGo, exExt, binV, intOp, subc, AV.solid, S0, encI, encB]
    exact FzK_B true _
  | false =>
    by_cases ho : 30 < signs.length
    · have ho' : (30 : Int) < signs.length := by omega
      simp [AW_seq, AW_reg, AW_regD, AW_block, AW_cond, AW_skip, AW_exit, AW_ret, AW_scp, condR_true, condR_false, AThen_normal, AThen_ret, AThen_exit, ABlock_normal, ABlock_ret, ABlock_exit, AScope_normal, AScope_ret, AScope_exit, RetK_ret, RetK_normal, retAV_one, retAV_two, retAV_three, retAV_nil, RG_nil, RG_op, RG_guard, gdR_tt, gdR_ff, gdR_tf, gdR_ft, gdR_un, RG_call, callQ_clo, contK_ap, opR_some, RD_nil, RD_op0, RD_op1, opD0_some, opD1_some, RD_call, callQD_clo, RD_guard, gdD_tt, gdD_ff, gdD_tf, gdD_ft, gdD_un, psh_nil, psh_cons, Apt_nil, Apt_nilT, Apt_true, Apt_false, Dis_def, runT_val, runT_rd, runT_wr, runT_new, runT_mv, ex, put_some, put_none, ev_t, ev_c, argF_zero, argF_succ, set_g, set_n, cells_v, cells_sl, cells_agg, cells_own, cells_ptr, cells_clo, cells_eptr, cells_mp, putc, exBslice, lfill, exField, exIdxV, exIdxP, exBox, exAlloc, exLoad, exStore, exFieldA, exIdxA, exLen, exPick, exUn, exBeq, exMM, exSeq, seqGo, exExt, binV, intOp, subc, AV.solid, S0, encI, encB, encIs, ho, ho']
      exact FzK_B true _
    · have ho' : ¬ (30 : Int) < signs.length := by omega
      simp [AW_seq, AW_reg, AW_regD, AW_block, AW_cond, AW_skip, AW_exit, AW_ret, AW_scp, condR_true, condR_false, AThen_normal, AThen_ret, AThen_exit, ABlock_normal, ABlock_ret, ABlock_exit, AScope_normal, AScope_ret, AScope_exit, RetK_ret, RetK_normal, retAV_one, retAV_two, retAV_three, retAV_nil, RG_nil, RG_op, RG_guard, gdR_tt, gdR_ff, gdR_tf, gdR_ft, gdR_un, RG_call, callQ_clo, contK_ap, opR_some, RD_nil, RD_op0, RD_op1, opD0_some, opD1_some, RD_call, callQD_clo, RD_guard, gdD_tt, gdD_ff, gdD_tf, gdD_ft, gdD_un, psh_nil, psh_cons, Apt_nil, Apt_nilT, Apt_true, Apt_false, Dis_def, runT_val, runT_rd, runT_wr, runT_new, runT_mv, ex, put_some, put_none, ev_t, ev_c, argF_zero, argF_succ, set_g, set_n, cells_v, cells_sl, cells_agg, cells_own, cells_ptr, cells_clo, cells_eptr, cells_mp, putc, exBslice, lfill, exField, exIdxV, exIdxP, exBox, exAlloc, exLoad, exStore, exFieldA, exIdxA, exLen, exPick, exUn, exBeq, exMM, exSeq, seqGo, exExt, binV, intOp, subc, AV.solid, S0, encI, encB, encIs, ho, ho', encDet]
      refine CallR.pure hr (cl_cons (closed_Det d) cl_nil) (closed_B _) ?_
      by_cases hR : rightD d = true
      · have R := (right_iff d).mp hR
        have hs1 := R.s1
        have hs2 := R.s2
        have hrem : d.signs.tmod 2 = d.signs % 2 := Int.tmod_eq_emod_of_nonneg (by omega)
        by_cases hev : d.signs % 2 = 0
        · have hevb : (d.signs.tmod 2 != 0) = false := by rw [hrem, hev]; rfl
          have hlo : Len signs := by unfold Len; omega
          have hls : Len (markS d) := by have := mark_len R; unfold Len; omega
          have hwl : (writeS signs pl).length ≤ signs.length := by unfold writeS; split <;> simp [wrL_length]
          have hlw : Len (writeS signs pl) := by unfold Len; omega
          have hcv : IntKind.i64.wrap (pl : Int) = (pl : Int) := wrap_in _ (by omega)
          simp [AW_seq, AW_reg, AW_regD, AW_block, AW_cond, AW_skip, AW_exit, AW_ret, AW_scp, condR_true, condR_false, AThen_normal, AThen_ret, AThen_exit, ABlock_normal, ABlock_ret, ABlock_exit, AScope_normal, AScope_ret, AScope_exit, RetK_ret, RetK_normal, retAV_one, retAV_two, retAV_three, retAV_nil, RG_nil, RG_op, RG_guard, gdR_tt, gdR_ff, gdR_tf, gdR_ft, gdR_un, RG_call, callQ_clo, contK_ap, opR_some, RD_nil, RD_op0, RD_op1, opD0_some, opD1_some, RD_call, callQD_clo, RD_guard, gdD_tt, gdD_ff, gdD_tf, gdD_ft, gdD_un, psh_nil, psh_cons, Apt_nil, Apt_nilT, Apt_true, Apt_false, Dis_def, runT_val, runT_rd, runT_wr, runT_new, runT_mv, ex, put_some, put_none, ev_t, ev_c, argF_zero, argF_succ, set_g, set_n, cells_v, cells_sl, cells_agg, cells_own, cells_ptr, cells_clo, cells_eptr, cells_mp, putc, exBslice, lfill, exField, exIdxV, exIdxP, exBox, exAlloc, exLoad, exStore, exFieldA, exIdxA, exLen, exPick, exUn, exBeq, exMM, exSeq, seqGo, exExt, binV, intOp, subc, AV.solid, S0, encI, encB, hR, encDet, hevb]
          refine CallR.pure hm (cl_cons (closed_Det d) cl_nil) (closed_M _ _ _) ?_
          simp [AW_seq, AW_reg, AW_regD, AW_block, AW_cond, AW_skip, AW_exit, AW_ret, AW_scp, condR_true, condR_false, AThen_normal, AThen_ret, AThen_exit, ABlock_normal, ABlock_ret, ABlock_exit, AScope_normal, AScope_ret, AScope_exit, RetK_ret, RetK_normal, retAV_one, retAV_two, retAV_three, retAV_nil, RG_nil, RG_op, RG_guard, gdR_tt, gdR_ff, gdR_tf, gdR_ft, gdR_un, RG_call, callQ_clo, contK_ap, opR_some, RD_nil, RD_op0, RD_op1, opD0_some, opD1_some, RD_call, callQD_clo, RD_guard, gdD_tt, gdD_ff, gdD_tf, gdD_ft, gdD_un, psh_nil, psh_cons, Apt_nil, Apt_nilT, Apt_true, Apt_false, Dis_def, runT_val, runT_rd, runT_wr, runT_new, runT_mv, ex, put_some, put_none, ev_t, ev_c, argF_zero, argF_succ, set_g, set_n, cells_v, cells_sl, cells_agg, cells_own, cells_ptr, cells_clo, cells_eptr, cells_mp, putc, exBslice, lfill, exField, exIdxV, exIdxP, exBox, exAlloc, exLoad, exStore, exFieldA, exIdxA, exLen, exPick, exUn, exBeq, exMM, exSeq, seqGo, exExt, binV, intOp, subc, AV.solid, S0, encI, encB, encIs, exConv, hcv]
          refine CallR.pure (hw signs pl (by omega)) (cl_cons (closed_Is _) (cl_cons (closed_I _) cl_nil)) (closed_Is _) ?_
          by_cases hne : writeS signs pl = []
          · simp [AW_seq, AW_reg, AW_regD, AW_block, AW_cond, AW_skip, AW_exit, AW_ret, AW_scp, condR_true, condR_false, AThen_normal, AThen_ret, AThen_exit, ABlock_normal, ABlock_ret, ABlock_exit, AScope_normal, AScope_ret, AScope_exit, RetK_ret, RetK_normal, retAV_one, retAV_two, retAV_three, retAV_nil, RG_nil, RG_op, RG_guard, gdR_tt, gdR_ff, gdR_tf, gdR_ft, gdR_un, RG_call, callQ_clo, contK_ap, opR_some, RD_nil, RD_op0, RD_op1, opD0_some, opD1_some, RD_call, callQD_clo, RD_guard, gdD_tt, gdD_ff, gdD_tf, gdD_ft, gdD_un, psh_nil, psh_cons, Apt_nil, Apt_nilT, Apt_true, Apt_false, Dis_def, runT_val, runT_rd, runT_wr, runT_new, runT_mv, ex, put_some, put_none, ev_t, ev_c, argF_zero, argF_succ, set_g, set_n, cells_v, cells_sl, cells_agg, cells_own, cells_ptr, cells_clo, cells_eptr, cells_mp, putc, exBslice, lfill, exField, exIdxV, exIdxP, exBox, exAlloc, exLoad, exStore, exFieldA, exIdxA, exLen, exPick, exUn, exBeq, exMM, exSeq, seqGo, exExt, binV, intOp, subc, AV.solid, S0, encI, encB, hne, encIs]
            refine pm_tail (signs := signs) (pl := pl) R hev hpl (by omega) hw ha hb hi false (by simp) ?_ ?_ ?_ ?_ ?_ ?_ ?_ ?_
            · simp [put_some, argF_zero, argF_succ, encIs]
            · simp [put_some, argF_zero, argF_succ]
            · simp [put_some]
            · simp [put_some, encIs]
            · simp [put_some, encI]
            · simp [put_some, encB]
            · simp [put_some, encB]
            · simp [set_g, encDet, encI]
          · have hlp : (0 : Int) < ((writeS signs pl).length : Int) := by have := List.length_pos_iff.mpr hne; omega
            have hdl : decide (0 < (writeS signs pl).length) = true := decide_eq_true (List.length_pos_iff.mpr hne)
            simp [AW_seq, AW_reg, AW_regD, AW_block, AW_cond, AW_skip, AW_exit, AW_ret, AW_scp, condR_true, condR_false, AThen_normal, AThen_ret, AThen_exit, ABlock_normal, ABlock_ret, ABlock_exit, AScope_normal, AScope_ret, AScope_exit, RetK_ret, RetK_normal, retAV_one, retAV_two, retAV_three, retAV_nil, RG_nil, RG_op, RG_guard, gdR_tt, gdR_ff, gdR_tf, gdR_ft, gdR_un, RG_call, callQ_clo, contK_ap, opR_some, RD_nil, RD_op0, RD_op1, opD0_some, opD1_some, RD_call, callQD_clo, RD_guard, gdD_tt, gdD_ff, gdD_tf, gdD_ft, gdD_un, psh_nil, psh_cons, Apt_nil, Apt_nilT, Apt_true, Apt_false, Dis_def, runT_val, runT_rd, runT_wr, runT_new, runT_mv, ex, put_some, put_none, ev_t, ev_c, argF_zero, argF_succ, set_g, set_n, cells_v, cells_sl, cells_agg, cells_own, cells_ptr, cells_clo, cells_eptr, cells_mp, putc, exBslice, lfill, exField, exIdxV, exIdxP, exBox, exAlloc, exLoad, exStore, exFieldA, exIdxA, exLen, exPick, exUn, exBeq, exMM, exSeq, seqGo, exExt, binV, intOp, subc, AV.solid, S0, encI, encB, hlp, hdl, encIs, encDet]
            refine CallR.pure (ha _ hlw) (cl_cons (closed_Det d) (cl_cons (closed_Is _) cl_nil)) (closed_B _) ?_
            simp [AW_seq, AW_reg, AW_regD, AW_block, AW_cond, AW_skip, AW_exit, AW_ret, AW_scp, condR_true, condR_false, AThen_normal, AThen_ret, AThen_exit, ABlock_normal, ABlock_ret, ABlock_exit, AScope_normal, AScope_ret, AScope_exit, RetK_ret, RetK_normal, retAV_one, retAV_two, retAV_three, retAV_nil, RG_nil, RG_op, RG_guard, gdR_tt, gdR_ff, gdR_tf, gdR_ft, gdR_un, RG_call, callQ_clo, contK_ap, opR_some, RD_nil, RD_op0, RD_op1, opD0_some, opD1_some, RD_call, callQD_clo, RD_guard, gdD_tt, gdD_ff, gdD_tf, gdD_ft, gdD_un, psh_nil, psh_cons, Apt_nil, Apt_nilT, Apt_true, Apt_false, Dis_def, runT_val, runT_rd, runT_wr, runT_new, runT_mv, ex, put_some, put_none, ev_t, ev_c, argF_zero, argF_succ, set_g, set_n, cells_v, cells_sl, cells_agg, cells_own, cells_ptr, cells_clo, cells_eptr, cells_mp, putc, exBslice, lfill, exField, exIdxV, exIdxP, exBox, exAlloc, exLoad, exStore, exFieldA, exIdxA, exLen, exPick, exUn, exBeq, exMM, exSeq, seqGo, exExt, binV, intOp, subc, AV.solid, S0, encI, encB]
            refine pm_tail (signs := signs) (pl := pl) R hev hpl (by omega) hw ha hb hi (accD d (writeS signs pl)) (fun h => ⟨hne, h⟩) ?_ ?_ ?_ ?_ ?_ ?_ ?_ ?_
            · simp [put_some, argF_zero, argF_succ, encIs]
            · simp [put_some, argF_zero, argF_succ]
            · simp [put_some]
            · simp [put_some, encIs]
            · simp [put_some, encI]
            · simp [put_some, encB]
            · simp [put_some, encB]
            · simp [set_g, encDet, encI]
        · have hevb : (d.signs.tmod 2 != 0) = true := by rw [hrem]; simp [hev]
          simp [AW_seq, AW_reg, AW_regD, AW_block, AW_cond, AW_skip, AW_exit, AW_ret, AW_scp, condR_true, condR_false, AThen_normal, AThen_ret, AThen_exit, ABlock_normal, ABlock_ret, ABlock_exit, AScope_normal, AScope_ret, AScope_exit, RetK_ret, RetK_normal, retAV_one, retAV_two, retAV_three, retAV_nil, RG_nil, RG_op, RG_guard, gdR_tt, gdR_ff, gdR_tf, gdR_ft, gdR_un, RG_call, callQ_clo, contK_ap, opR_some, RD_nil, RD_op0, RD_op1, opD0_some, opD1_some, RD_call, callQD_clo, RD_guard, gdD_tt, gdD_ff, gdD_tf, gdD_ft, gdD_un, psh_nil, psh_cons, Apt_nil, Apt_nilT, Apt_true, Apt_false, Dis_def, runT_val, runT_rd, runT_wr, runT_new, runT_mv, ex, put_some, put_none, ev_t, ev_c, argF_zero, argF_succ, set_g, set_n, cells_v, cells_sl, cells_agg, cells_own, cells_ptr, cells_clo, cells_eptr, cells_mp, putc, exBslice, lfill, exField, exIdxV, exIdxP, exBox, exAlloc, exLoad, exStore, exFieldA, exIdxA, exLen, exPick, exUn, exBeq, exMM, exSeq, seqGo, exExt, binV, intOp, subc, AV.solid, S0, encI, encB, hR, encDet, hevb]
          exact FzK_B true _
      · simp [AW_seq, AW_reg, AW_regD, AW_block, AW_cond, AW_skip, AW_exit, AW_ret, AW_scp, condR_true, condR_false, AThen_normal, AThen_ret, AThen_exit, ABlock_normal, ABlock_ret, ABlock_exit, AScope_normal, AScope_ret, AScope_exit, RetK_ret, RetK_normal, retAV_one, retAV_two, retAV_three, retAV_nil, RG_nil, RG_op, RG_guard, gdR_tt, gdR_ff, gdR_tf, gdR_ft, gdR_un, RG_call, callQ_clo, contK_ap, opR_some, RD_nil, RD_op0, RD_op1, opD0_some, opD1_some, RD_call, callQD_clo, RD_guard, gdD_tt, gdD_ff, gdD_tf, gdD_ft, gdD_un, psh_nil, psh_cons, Apt_nil, Apt_nilT, Apt_true, Apt_false, Dis_def, runT_val, runT_rd, runT_wr, runT_new, runT_mv, ex, put_some, put_none, ev_t, ev_c, argF_zero, argF_succ, set_g, set_n, cells_v, cells_sl, cells_agg, cells_own, cells_ptr, cells_clo, cells_eptr, cells_mp, putc, exBslice, lfill, exField, exIdxV, exIdxP, exBox, exAlloc, exLoad, exStore, exFieldA, exIdxA, exLen, exPick, exUn, exBeq, exMM, exSeq, seqGo, exExt, binV, intOp, subc, AV.solid, S0, encI, encB, hR]
        exact FzK_B true _
end Go.Rf
