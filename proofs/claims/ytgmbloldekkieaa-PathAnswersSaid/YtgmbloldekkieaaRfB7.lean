import Derived.Test.YtgmbloldekkieaaRfVec
import Derived.Test.YtgmbloldekkieaaRfB3
set_option linter.unusedVariables false
set_option linter.unusedSimpArgs false
namespace Go.Rf
def c_path_Write_1 : AC :=
  (.seq (.reg none [
   ⟨(some 2), .mv (.c (.v (.bool false))), none, none⟩])
  (.seq (.reg none [
   ⟨(some 3), .mv (.t 0), none, none⟩,
   ⟨(some 4), .bin .lss (.t 3) (.c (.v (.int .i64 0))), none, none⟩,
   ⟨(some 5), .mv (.t 4), none, none⟩,
   ⟨(some 6), .mv (.t 0), (some (5, false)), none⟩,
   ⟨(some 7), .bin .gtr (.t 6) (.c (.v (.int .i64 1048576))), (some (5, false)), none⟩,
   ⟨(some 8), .pick (.t 5) (.c (.v (.bool true))) (.t 7), none, none⟩,
   ⟨(some 2), .mv (.t 8), none, none⟩])
  .ret))

def c_caesuraref18_Write : AC :=
  (.seq (.reg none [
   ⟨(some 4), .mv (.c (.sl true [])), none, none⟩])
  (.seq (.seq (.reg none [
   ⟨(some 8), .mv (.t 1), none, none⟩,
   ⟨(some 9), .bin .lss (.t 8) (.c (.v (.int .i64 1))), none, none⟩,
   ⟨(some 10), .mv (.t 9), none, none⟩,
   ⟨(some 11), .mv (.t 1), (some (10, false)), none⟩,
   ⟨(some 12), .mv (.t 0), (some (10, false)), none⟩,
   ⟨(some 13), .len (.t 12), (some (10, false)), none⟩,
   ⟨(some 14), .bin .geq (.t 11) (.t 13), (some (10, false)), none⟩,
   ⟨(some 15), .pick (.t 10) (.c (.v (.bool true))) (.t 14), none, none⟩])
  (.cond (.t 15) (.seq (.reg none [
    ⟨(some 4), .mv (.c (.sl true [])), none, none⟩])
   .ret) .skip))
  (.seq (.reg none [
   ⟨(some 5), .mv (.c (.sl true [])), none, none⟩])
  (.seq (.seq (.reg none [
   ⟨(some 6), .mv (.c (.v (.int .i64 0))), none, none⟩])
  (.block 0 (.loop (.seq (.seq (.reg none [
     ⟨(some 16), .mv (.t 6), none, none⟩,
     ⟨(some 17), .mv (.t 0), none, none⟩,
     ⟨(some 18), .len (.t 17), none, none⟩,
     ⟨(some 19), .bin .lss (.t 16) (.t 18), none, none⟩])
    (.cond (.t 19) .skip (.exit 0)))
    (.seq (.block 1 (.seq (.seq (.reg none [
      ⟨(some 22), .mv (.t 0), none, none⟩,
      ⟨(some 23), .mv (.t 6), none, none⟩,
      ⟨(some 24), .idxA 1 (.t 22) (.t 23), none, none⟩,
      ⟨(some 25), .load none (.t 24), none, none⟩,
      ⟨(some 26), .bin .lss (.t 25) (.c (.v (.int .i64 0))), none, none⟩,
      ⟨(some 27), .mv (.t 26), none, none⟩,
      ⟨(some 28), .mv (.t 0), (some (27, false)), none⟩,
      ⟨(some 29), .mv (.t 6), (some (27, false)), none⟩,
      ⟨(some 30), .idxA 1 (.t 28) (.t 29), (some (27, false)), none⟩,
      ⟨(some 31), .load none (.t 30), (some (27, false)), none⟩,
      ⟨(some 32), .bin .gtr (.t 31) (.c (.v (.int .i64 1048576))), (some (27, false)), none⟩,
      ⟨(some 33), .pick (.t 27) (.c (.v (.bool true))) (.t 32), none, none⟩])
     (.cond (.t 33) (.seq (.reg none [
       ⟨(some 4), .mv (.c (.sl true [])), none, none⟩])
      .ret) .skip))
     (.seq (.reg none [
      ⟨(some 34), .mv (.t 0), none, none⟩,
      ⟨(some 35), .mv (.t 6), none, none⟩,
      ⟨(some 36), .idxA 1 (.t 34) (.t 35), none, none⟩,
      ⟨(some 37), .load none (.t 36), none, none⟩,
      ⟨(some 38), .bin .mul (.c (.v (.int .i64 2))) (.t 37), none, none⟩,
      ⟨(some 7), .mv (.t 38), none, none⟩])
     (.seq (.seq (.reg none [
      ⟨(some 39), .mv (.t 6), none, none⟩,
      ⟨(some 40), .mv (.t 1), none, none⟩,
      ⟨(some 41), .bin .eql (.t 39) (.t 40), none, none⟩])
     (.cond (.t 41) (.reg none [
       ⟨(some 42), .mv (.t 7), none, none⟩,
       ⟨(some 43), .bin .add (.t 42) (.c (.v (.int .i64 1))), none, none⟩,
       ⟨(some 7), .mv (.t 43), none, none⟩]) .skip))
     (.reg none [
      ⟨(some 44), .mv (.t 5), none, none⟩,
      ⟨(some 45), .mv (.t 7), none, none⟩,
      ⟨(some 46), .bslice 1 1 (.v (.int .i64 0)) [(0, (.t 45))], none, none⟩,
      ⟨(some 47), .app 1 8 (.t 44) (.t 46), none, none⟩,
      ⟨(some 5), .mv (.t 47), none, none⟩])))))
    (.reg none [
     ⟨(some 20), .mv (.t 6), none, none⟩,
     ⟨(some 21), .bin .add (.t 20) (.c (.v (.int .i64 1))), none, none⟩,
     ⟨(some 6), .mv (.t 21), none, none⟩]))))))
  (.seq (.reg none [
   ⟨(some 48), .mv (.t 5), none, none⟩,
   ⟨(some 4), .mv (.t 48), none, none⟩])
  .ret)))))

def c_path_Write (f_path_Write_1 f_slices_ContainsFunc_Sint_int_ : FuncId) : AC :=
  (.seq (.reg none [
   ⟨(some 4), .mv (.c (.sl true [])), none, none⟩])
  (.seq (.reg none [
   ⟨(some 5), .mv (.c (.clo f_path_Write_1 [] [])), none, none⟩])
  (.seq (.seq (.reg none [
   ⟨(some 9), .mv (.t 1), none, none⟩,
   ⟨(some 10), .bin .lss (.t 9) (.c (.v (.int .i64 1))), none, none⟩,
   ⟨(some 11), .mv (.t 10), none, none⟩,
   ⟨(some 12), .mv (.t 1), (some (11, false)), none⟩,
   ⟨(some 13), .mv (.t 0), (some (11, false)), none⟩,
   ⟨(some 14), .len (.t 13), (some (11, false)), none⟩,
   ⟨(some 15), .bin .geq (.t 12) (.t 14), (some (11, false)), none⟩,
   ⟨(some 16), .pick (.t 11) (.c (.v (.bool true))) (.t 15), none, none⟩,
   ⟨(some 17), .mv (.t 16), none, none⟩,
   ⟨(some 18), .mv (.t 0), (some (17, false)), none⟩,
   ⟨(some 19), .mv (.t 5), (some (17, false)), none⟩,
   ⟨(some 20), .mv (.c .junk), (some (17, false)), (some ((.c (.clo f_slices_ContainsFunc_Sint_int_ [] [])), [(.t 18), (.t 19)]))⟩,
   ⟨(some 21), .pick (.t 17) (.c (.v (.bool true))) (.t 20), none, none⟩])
  (.cond (.t 21) (.seq (.reg none [
    ⟨(some 4), .mv (.c (.sl true [])), none, none⟩])
   .ret) .skip))
  (.seq (.reg none [
   ⟨(some 6), .mv (.c (.sl true [])), none, none⟩])
  (.seq (.seq (.reg none [
   ⟨(some 22), .mv (.t 0), none, none⟩,
   ⟨(some 23), .len (.t 22), none, none⟩,
   ⟨(some 24), .mv (.c (.v (.int .i64 0))), none, none⟩])
  (.block 0 (.loop (.seq (.reg none [
     ⟨(some 25), .bin .lss (.t 24) (.t 23), none, none⟩])
    (.seq (.cond (.t 25) .skip (.exit 0))
    (.seq (.block 1 (.seq (.reg none [
      ⟨(some 26), .mv (.t 24), none, none⟩,
      ⟨(some 27), .idxA 1 (.t 22) (.t 24), none, none⟩,
      ⟨(some 28), .load none (.t 27), none, none⟩,
      ⟨(some 7), .mv (.t 26), none, none⟩,
      ⟨(some 8), .mv (.t 28), none, none⟩])
     (.seq (.reg none [
      ⟨(some 29), .mv (.t 6), none, none⟩,
      ⟨(some 30), .mv (.t 8), none, none⟩,
      ⟨(some 31), .bin .mul (.c (.v (.int .i64 2))) (.t 30), none, none⟩,
      ⟨(some 32), .bslice 1 1 (.v (.int .i64 0)) [(0, (.t 31))], none, none⟩,
      ⟨(some 33), .app 1 8 (.t 29) (.t 32), none, none⟩,
      ⟨(some 6), .mv (.t 33), none, none⟩])
     (.seq (.reg none [
      ⟨(some 34), .mv (.t 7), none, none⟩,
      ⟨(some 35), .mv (.t 1), none, none⟩,
      ⟨(some 36), .bin .eql (.t 34) (.t 35), none, none⟩])
     (.cond (.t 36) (.reg none [
       ⟨(some 37), .mv (.t 6), none, none⟩,
       ⟨(some 38), .mv (.t 7), none, none⟩,
       ⟨(some 39), .idxA 1 (.t 37) (.t 38), none, none⟩,
       ⟨(some 40), .load none (.t 39), none, none⟩,
       ⟨(some 41), .bin .add (.t 40) (.c (.v (.int .i64 1))), none, none⟩,
       ⟨(some 42), .idxA 1 (.t 37) (.t 38), none, none⟩,
       ⟨none, .store 1 (.t 42) (.t 41), none, none⟩]) .skip)))))
    (.reg none [
     ⟨(some 43), .bin .add (.t 24) (.c (.v (.int .i64 1))), none, none⟩,
     ⟨(some 24), .mv (.t 43), none, none⟩])))))))
  (.seq (.reg none [
   ⟨(some 44), .mv (.t 6), none, none⟩,
   ⟨(some 4), .mv (.t 44), none, none⟩])
  .ret))))))

def oddS (s : Int) : Bool := decide (s < 0) || decide (1048576 < s)
theorem path_Write_1_body (P : Program) (s : Int) : AW P c_path_Write_1 (RetK [2] (FzK (encB (oddS s)))) (argF [encI s]) S0 := by
  by_cases h1 : s < 0
  · simp [AW_seq, AW_reg, AW_regD, AW_block, AW_cond, AW_skip, AW_exit, AW_ret, AW_scp, condR_true, condR_false, AThen_normal, AThen_ret, AThen_exit, ABlock_normal, ABlock_ret, ABlock_exit, AScope_normal, AScope_ret, AScope_exit, RetK_ret, RetK_normal, retAV_one, retAV_two, retAV_three, retAV_nil, RG_nil, RG_op, RG_guard, gdR_tt, gdR_ff, gdR_tf, gdR_ft, gdR_un, RG_call, callQ_clo, contK_ap, opR_some, RD_nil, RD_op0, RD_op1, opD0_some, opD1_some, RD_call, callQD_clo, RD_guard, gdD_tt, gdD_ff, gdD_tf, gdD_ft, gdD_un, psh_nil, psh_cons, Apt_nil, Apt_nilT, Apt_true, Apt_false, Dis_def, runT_val, runT_rd, runT_wr, runT_new, runT_mv, ex, put_some, put_none, ev_t, ev_c, argF_zero, argF_succ, set_g, set_n, cells_v, cells_sl, cells_agg, cells_own, cells_ptr, cells_clo, cells_eptr, cells_mp, putc, exBslice, lfill, exField, exIdxV, exIdxP, exBox, exAlloc, exLoad, exStore, exFieldA, exIdxA, exLen, exPick, exUn, exBeq, exMM, exSeq, seqGo, exExt, binV, intOp, subc, AV.solid, S0, encI, encB, c_path_Write_1, h1, oddS]
    exact FzK_B true _
  · simp [AW_seq, AW_reg, AW_regD, AW_block, AW_cond, AW_skip, AW_exit, AW_ret, AW_scp, condR_true, condR_false, AThen_normal, AThen_ret, AThen_exit, ABlock_normal, ABlock_ret, ABlock_exit, AScope_normal, AScope_ret, AScope_exit, RetK_ret, RetK_normal, retAV_one, retAV_two, retAV_three, retAV_nil, RG_nil, RG_op, RG_guard, gdR_tt, gdR_ff, gdR_tf, gdR_ft, gdR_un, RG_call, callQ_clo, contK_ap, opR_some, RD_nil, RD_op0, RD_op1, opD0_some, opD1_some, RD_call, callQD_clo, RD_guard, gdD_tt, gdD_ff, gdD_tf, gdD_ft, gdD_un, psh_nil, psh_cons, Apt_nil, Apt_nilT, Apt_true, Apt_false, Dis_def, runT_val, runT_rd, runT_wr, runT_new, runT_mv, ex, put_some, put_none, ev_t, ev_c, argF_zero, argF_succ, set_g, set_n, cells_v, cells_sl, cells_agg, cells_own, cells_ptr, cells_clo, cells_eptr, cells_mp, putc, exBslice, lfill, exField, exIdxV, exIdxP, exBox, exAlloc, exLoad, exStore, exFieldA, exIdxA, exLen, exPick, exUn, exBeq, exMM, exSeq, seqGo, exExt, binV, intOp, subc, AV.solid, S0, encI, encB, c_path_Write_1, h1, oddS]
    exact FzK_B _ _
def one1 (place : Int) (i : Nat) : Int := if (i : Int) = place then 1 else 0
def wrL (place : Int) : Nat → List Int → List Int
  | _, [] => []
  | i, s :: l => (2 * s + one1 place i) :: wrL place (i + 1) l
theorem wrL_length (place : Int) : ∀ (l : List Int) (i : Nat), (wrL place i l).length = l.length
  | [], _ => rfl
  | s :: l, i => by simp [wrL, wrL_length place l]
theorem wrL_snoc (place : Int) (s : Int) : ∀ (l : List Int) (i : Nat), wrL place i (l ++ [s]) = wrL place i l ++ [2 * s + one1 place (i + l.length)]
  | [], i => by simp [wrL]
  | t :: l, i => by
    simp only [List.cons_append, wrL, wrL_snoc place s l]
    simp; congr 1; omega
def writeS (signs : List Int) (place : Int) : List Int :=
  if 1 ≤ place ∧ place < signs.length ∧ signs.any oddS = false then wrL place 0 signs else []
theorem wr_take (place : Int) (l : List Int) (i : Nat) (h : i < l.length) : wrL place 0 (l.take (i + 1)) = wrL place 0 (l.take i) ++ [2 * l[i] + one1 place i] := by
  rw [List.take_add_one, List.getElem?_eq_getElem h]
  simp only [Option.toList_some]
  rw [wrL_snoc]; simp; congr 1; omega
def wrI (signs : List Int) (place : Int) (m : Nat) (f : AF) (S : St) : Prop :=
  ∃ i : Nat, i ≤ signs.length ∧ m = signs.length - i ∧ f 6 = encI i ∧ f 0 = encIs signs ∧ f 1 = encI place ∧ Vec S.g (f 5) 1 ((wrL place 0 (signs.take i)).map encI) ∧ (signs.take i).any oddS = false
theorem caesuraref18_Write_bodyN (P : Program) (signs : List Int) (place : Int) (hl : signs.length ≤ 1000000) : AW P c_caesuraref18_Write (RetK [4] (FzNK (encIs (writeS signs place)))) (argF [encIs signs, encI place]) S0 := by
  by_cases h1 : place < 1
  · have hr : writeS signs place = [] := by rw [writeS, if_neg (by omega)]
    simp [AW_seq, AW_reg, AW_regD, AW_block, AW_cond, AW_skip, AW_exit, AW_ret, AW_scp, condR_true, condR_false, AThen_normal, AThen_ret, AThen_exit, ABlock_normal, ABlock_ret, ABlock_exit, AScope_normal, AScope_ret, AScope_exit, RetK_ret, RetK_normal, retAV_one, retAV_two, retAV_three, retAV_nil, RG_nil, RG_op, RG_guard, gdR_tt, gdR_ff, gdR_tf, gdR_ft, gdR_un, RG_call, callQ_clo, contK_ap, opR_some, RD_nil, RD_op0, RD_op1, opD0_some, opD1_some, RD_call, callQD_clo, RD_guard, gdD_tt, gdD_ff, gdD_tf, gdD_ft, gdD_un, psh_nil, psh_cons, Apt_nil, Apt_nilT, Apt_true, Apt_false, Dis_def, runT_val, runT_rd, runT_wr, runT_new, runT_mv, ex, put_some, put_none, ev_t, ev_c, argF_zero, argF_succ, set_g, set_n, cells_v, cells_sl, cells_agg, cells_own, cells_ptr, cells_clo, cells_eptr, cells_mp, putc, exBslice, lfill, exField, exIdxV, exIdxP, exBox, exAlloc, exLoad, exStore, exFieldA, exIdxA, exLen, exPick, exUn, exBeq, exMM, exSeq, seqGo, exExt, binV, intOp, subc, AV.solid, S0, encI, encB, c_caesuraref18_Write, encIs, h1, hr]
    exact .nil true false (by simp)
  by_cases h2 : (signs.length : Int) ≤ place
  · have hr : writeS signs place = [] := by rw [writeS, if_neg (by omega)]
    simp [AW_seq, AW_reg, AW_regD, AW_block, AW_cond, AW_skip, AW_exit, AW_ret, AW_scp, condR_true, condR_false, AThen_normal, AThen_ret, AThen_exit, ABlock_normal, ABlock_ret, ABlock_exit, AScope_normal, AScope_ret, AScope_exit, RetK_ret, RetK_normal, retAV_one, retAV_two, retAV_three, retAV_nil, RG_nil, RG_op, RG_guard, gdR_tt, gdR_ff, gdR_tf, gdR_ft, gdR_un, RG_call, callQ_clo, contK_ap, opR_some, RD_nil, RD_op0, RD_op1, opD0_some, opD1_some, RD_call, callQD_clo, RD_guard, gdD_tt, gdD_ff, gdD_tf, gdD_ft, gdD_un, psh_nil, psh_cons, Apt_nil, Apt_nilT, Apt_true, Apt_false, Dis_def, runT_val, runT_rd, runT_wr, runT_new, runT_mv, ex, put_some, put_none, ev_t, ev_c, argF_zero, argF_succ, set_g, set_n, cells_v, cells_sl, cells_agg, cells_own, cells_ptr, cells_clo, cells_eptr, cells_mp, putc, exBslice, lfill, exField, exIdxV, exIdxP, exBox, exAlloc, exLoad, exStore, exFieldA, exIdxA, exLen, exPick, exUn, exBeq, exMM, exSeq, seqGo, exExt, binV, intOp, subc, AV.solid, S0, encI, encB, c_caesuraref18_Write, encIs, h1, h2, hr]
    exact .nil true false (by simp)
  simp [AW_seq, AW_reg, AW_regD, AW_block, AW_cond, AW_skip, AW_exit, AW_ret, AW_scp, condR_true, condR_false, AThen_normal, AThen_ret, AThen_exit, ABlock_normal, ABlock_ret, ABlock_exit, AScope_normal, AScope_ret, AScope_exit, RetK_ret, RetK_normal, retAV_one, retAV_two, retAV_three, retAV_nil, RG_nil, RG_op, RG_guard, gdR_tt, gdR_ff, gdR_tf, gdR_ft, gdR_un, RG_call, callQ_clo, contK_ap, opR_some, RD_nil, RD_op0, RD_op1, opD0_some, opD1_some, RD_call, callQD_clo, RD_guard, gdD_tt, gdD_ff, gdD_tf, gdD_ft, gdD_un, psh_nil, psh_cons, Apt_nil, Apt_nilT, Apt_true, Apt_false, Dis_def, runT_val, runT_rd, runT_wr, runT_new, runT_mv, ex, put_some, put_none, ev_t, ev_c, argF_zero, argF_succ, set_g, set_n, cells_v, cells_sl, cells_agg, cells_own, cells_ptr, cells_clo, cells_eptr, cells_mp, putc, exBslice, lfill, exField, exIdxV, exIdxP, exBox, exAlloc, exLoad, exStore, exFieldA, exIdxA, exLen, exPick, exUn, exBeq, exMM, exSeq, seqGo, exExt, binV, intOp, subc, AV.solid, S0, encI, encB, c_caesuraref18_Write, encIs, h1, h2]
  refine AW_loop (wrI signs place) signs.length ?_ ?_
  · refine ⟨0, by omega, by omega, ?_, ?_, ?_, ?_, by simp⟩ <;> simp [put_some, argF_zero, argF_succ, encI, encIs, wrL]
    exact .nil
  · rintro m f S ⟨i, hi, rfl, e6, e0, e1, hv, hq⟩
    by_cases hlt : i < signs.length
    · have hodd : oddS signs[i] = true → writeS signs place = [] := by
        intro h
        rw [writeS, if_neg]
        rintro ⟨_, _, h3⟩
        rw [List.any_eq_false] at h3
        exact h3 _ (List.getElem_mem hlt) h
      by_cases h3 : signs[i] < 0
      · have hr := hodd (by simp [oddS, h3])
        simp [AW_seq, AW_reg, AW_regD, AW_block, AW_cond, AW_skip, AW_exit, AW_ret, AW_scp, condR_true, condR_false, AThen_normal, AThen_ret, AThen_exit, ABlock_normal, ABlock_ret, ABlock_exit, AScope_normal, AScope_ret, AScope_exit, RetK_ret, RetK_normal, retAV_one, retAV_two, retAV_three, retAV_nil, RG_nil, RG_op, RG_guard, gdR_tt, gdR_ff, gdR_tf, gdR_ft, gdR_un, RG_call, callQ_clo, contK_ap, opR_some, RD_nil, RD_op0, RD_op1, opD0_some, opD1_some, RD_call, callQD_clo, RD_guard, gdD_tt, gdD_ff, gdD_tf, gdD_ft, gdD_un, psh_nil, psh_cons, Apt_nil, Apt_nilT, Apt_true, Apt_false, Dis_def, runT_val, runT_rd, runT_wr, runT_new, runT_mv, ex, put_some, put_none, ev_t, ev_c, argF_zero, argF_succ, set_g, set_n, cells_v, cells_sl, cells_agg, cells_own, cells_ptr, cells_clo, cells_eptr, cells_mp, putc, exBslice, lfill, exField, exIdxV, exIdxP, exBox, exAlloc, exLoad, exStore, exFieldA, exIdxA, exLen, exPick, exUn, exBeq, exMM, exSeq, seqGo, exExt, binV, intOp, subc, AV.solid, S0, encI, encB, e6, e0, e1, encIs, hlt, h3, hr]
        exact .nil true false (by simp)
      by_cases h4 : 1048576 < signs[i]
      · have hr := hodd (by simp [oddS, h4])
        simp [AW_seq, AW_reg, AW_regD, AW_block, AW_cond, AW_skip, AW_exit, AW_ret, AW_scp, condR_true, condR_false, AThen_normal, AThen_ret, AThen_exit, ABlock_normal, ABlock_ret, ABlock_exit, AScope_normal, AScope_ret, AScope_exit, RetK_ret, RetK_normal, retAV_one, retAV_two, retAV_three, retAV_nil, RG_nil, RG_op, RG_guard, gdR_tt, gdR_ff, gdR_tf, gdR_ft, gdR_un, RG_call, callQ_clo, contK_ap, opR_some, RD_nil, RD_op0, RD_op1, opD0_some, opD1_some, RD_call, callQD_clo, RD_guard, gdD_tt, gdD_ff, gdD_tf, gdD_ft, gdD_un, psh_nil, psh_cons, Apt_nil, Apt_nilT, Apt_true, Apt_false, Dis_def, runT_val, runT_rd, runT_wr, runT_new, runT_mv, ex, put_some, put_none, ev_t, ev_c, argF_zero, argF_succ, set_g, set_n, cells_v, cells_sl, cells_agg, cells_own, cells_ptr, cells_clo, cells_eptr, cells_mp, putc, exBslice, lfill, exField, exIdxV, exIdxP, exBox, exAlloc, exLoad, exStore, exFieldA, exIdxA, exLen, exPick, exUn, exBeq, exMM, exSeq, seqGo, exExt, binV, intOp, subc, AV.solid, S0, encI, encB, e6, e0, e1, encIs, hlt, h3, h4, hr]
        exact .nil true false (by simp)
      have hno : oddS signs[i] = false := by simp [oddS, h3, h4]
      have hlen : (wrL place 0 (signs.take i)).length = i := by rw [wrL_length]; simp; omega
      have happ := fun (n nid : Nat) (x : AV) (hx : x.cells.length = 1) => Vec.app (n := n) (nid := nid) (by_ := 8) hv (cells_I _) hx (appOk8 (by rw [List.length_map, hlen]; omega))
      have hnx : ∀ (v : Int) (S' : St) (id : Nat), 2 * signs[i] + one1 place i = v → Vec (((St.without S' (f 5)).set id (some (.arr 1 ((wrL place 0 (signs.take i)).map encI ++ [encI v])))).g) (.own id 0 (i + 1)) 1 ((wrL place 0 (signs.take (i + 1))).map encI) := by
        intro v S' id hv'
        refine .mk' ?_ ?_
        · rw [wr_take _ _ _ hlt, hv']; simp [set_g]
        · simp [wrL_length]; omega
      by_cases h5 : (i : Int) = place
      · have hc5 : ((i : Int) == place) = true := by simpa using h5
        simp [AW_seq, AW_reg, AW_regD, AW_block, AW_cond, AW_skip, AW_exit, AW_ret, AW_scp, condR_true, condR_false, AThen_normal, AThen_ret, AThen_exit, ABlock_normal, ABlock_ret, ABlock_exit, AScope_normal, AScope_ret, AScope_exit, RetK_ret, RetK_normal, retAV_one, retAV_two, retAV_three, retAV_nil, RG_nil, RG_op, RG_guard, gdR_tt, gdR_ff, gdR_tf, gdR_ft, gdR_un, RG_call, callQ_clo, contK_ap, opR_some, RD_nil, RD_op0, RD_op1, opD0_some, opD1_some, RD_call, callQD_clo, RD_guard, gdD_tt, gdD_ff, gdD_tf, gdD_ft, gdD_un, psh_nil, psh_cons, Apt_nil, Apt_nilT, Apt_true, Apt_false, Dis_def, runT_val, runT_rd, runT_wr, runT_new, runT_mv, ex, put_some, put_none, ev_t, ev_c, argF_zero, argF_succ, set_g, set_n, cells_v, cells_sl, cells_agg, cells_own, cells_ptr, cells_clo, cells_eptr, cells_mp, putc, exBslice, lfill, exField, exIdxV, exIdxP, exBox, exAlloc, exLoad, exStore, exFieldA, exIdxA, exLen, exPick, exUn, exBeq, exMM, exSeq, seqGo, exExt, binV, intOp, subc, AV.solid, S0, encI, encB, e6, e0, e1, encIs, hlt, h3, h4, hc5]
        rw [happ _ _ _ (by simp [AV.cells]), wrap_in _ (by omega), wrap_in _ (by omega)]
        simp [AW_seq, AW_reg, AW_regD, AW_block, AW_cond, AW_skip, AW_exit, AW_ret, AW_scp, condR_true, condR_false, AThen_normal, AThen_ret, AThen_exit, ABlock_normal, ABlock_ret, ABlock_exit, AScope_normal, AScope_ret, AScope_exit, RetK_ret, RetK_normal, retAV_one, retAV_two, retAV_three, retAV_nil, RG_nil, RG_op, RG_guard, gdR_tt, gdR_ff, gdR_tf, gdR_ft, gdR_un, RG_call, callQ_clo, contK_ap, opR_some, RD_nil, RD_op0, RD_op1, opD0_some, opD1_some, RD_call, callQD_clo, RD_guard, gdD_tt, gdD_ff, gdD_tf, gdD_ft, gdD_un, psh_nil, psh_cons, Apt_nil, Apt_nilT, Apt_true, Apt_false, Dis_def, runT_val, runT_rd, runT_wr, runT_new, runT_mv, ex, put_some, put_none, ev_t, ev_c, argF_zero, argF_succ, set_g, set_n, cells_v, cells_sl, cells_agg, cells_own, cells_ptr, cells_clo, cells_eptr, cells_mp, putc, exBslice, lfill, exField, exIdxV, exIdxP, exBox, exAlloc, exLoad, exStore, exFieldA, exIdxA, exLen, exPick, exUn, exBeq, exMM, exSeq, seqGo, exExt, binV, intOp, subc, AV.solid, S0, encI, encB, e6, e0, e1, encIs]
        rw [wrap_in _ (by omega)]
        refine ⟨signs.length - (i + 1), by omega, i + 1, by omega, rfl, ?_, ?_, ?_, ?_, by rw [any_take_succ _ _ _ hlt, hq, hno]; rfl⟩
        · simp [put_some, encI]
        · simp [put_some, e0, encIs]
        · simp [put_some, e1]
        · simp only [put_some]
          simp only [Nat.reduceEqDiff, if_false, if_true]
          have := hnx (2 * signs[i] + 1) ⟨S.n + 4 + 12 + 6 + 3 + 3 + 5, S.g⟩ (S.n + 4 + 12 + 6 + 3 + 3 + 3) (by simp [one1, h5])
          rw [hlen]
          exact this
      · have hc5 : ((i : Int) == place) = false := by simpa using h5
        simp [AW_seq, AW_reg, AW_regD, AW_block, AW_cond, AW_skip, AW_exit, AW_ret, AW_scp, condR_true, condR_false, AThen_normal, AThen_ret, AThen_exit, ABlock_normal, ABlock_ret, ABlock_exit, AScope_normal, AScope_ret, AScope_exit, RetK_ret, RetK_normal, retAV_one, retAV_two, retAV_three, retAV_nil, RG_nil, RG_op, RG_guard, gdR_tt, gdR_ff, gdR_tf, gdR_ft, gdR_un, RG_call, callQ_clo, contK_ap, opR_some, RD_nil, RD_op0, RD_op1, opD0_some, opD1_some, RD_call, callQD_clo, RD_guard, gdD_tt, gdD_ff, gdD_tf, gdD_ft, gdD_un, psh_nil, psh_cons, Apt_nil, Apt_nilT, Apt_true, Apt_false, Dis_def, runT_val, runT_rd, runT_wr, runT_new, runT_mv, ex, put_some, put_none, ev_t, ev_c, argF_zero, argF_succ, set_g, set_n, cells_v, cells_sl, cells_agg, cells_own, cells_ptr, cells_clo, cells_eptr, cells_mp, putc, exBslice, lfill, exField, exIdxV, exIdxP, exBox, exAlloc, exLoad, exStore, exFieldA, exIdxA, exLen, exPick, exUn, exBeq, exMM, exSeq, seqGo, exExt, binV, intOp, subc, AV.solid, S0, encI, encB, e6, e0, e1, encIs, hlt, h3, h4, hc5]
        rw [happ _ _ _ (by simp [AV.cells]), wrap_in _ (by omega)]
        simp [AW_seq, AW_reg, AW_regD, AW_block, AW_cond, AW_skip, AW_exit, AW_ret, AW_scp, condR_true, condR_false, AThen_normal, AThen_ret, AThen_exit, ABlock_normal, ABlock_ret, ABlock_exit, AScope_normal, AScope_ret, AScope_exit, RetK_ret, RetK_normal, retAV_one, retAV_two, retAV_three, retAV_nil, RG_nil, RG_op, RG_guard, gdR_tt, gdR_ff, gdR_tf, gdR_ft, gdR_un, RG_call, callQ_clo, contK_ap, opR_some, RD_nil, RD_op0, RD_op1, opD0_some, opD1_some, RD_call, callQD_clo, RD_guard, gdD_tt, gdD_ff, gdD_tf, gdD_ft, gdD_un, psh_nil, psh_cons, Apt_nil, Apt_nilT, Apt_true, Apt_false, Dis_def, runT_val, runT_rd, runT_wr, runT_new, runT_mv, ex, put_some, put_none, ev_t, ev_c, argF_zero, argF_succ, set_g, set_n, cells_v, cells_sl, cells_agg, cells_own, cells_ptr, cells_clo, cells_eptr, cells_mp, putc, exBslice, lfill, exField, exIdxV, exIdxP, exBox, exAlloc, exLoad, exStore, exFieldA, exIdxA, exLen, exPick, exUn, exBeq, exMM, exSeq, seqGo, exExt, binV, intOp, subc, AV.solid, S0, encI, encB, e6, e0, e1, encIs]
        rw [wrap_in _ (by omega)]
        refine ⟨signs.length - (i + 1), by omega, i + 1, by omega, rfl, ?_, ?_, ?_, ?_, by rw [any_take_succ _ _ _ hlt, hq, hno]; rfl⟩
        · simp [put_some, encI]
        · simp [put_some, e0, encIs]
        · simp [put_some, e1]
        · simp only [put_some]
          simp only [Nat.reduceEqDiff, if_false, if_true]
          have := hnx (2 * signs[i]) ⟨S.n + 4 + 12 + 6 + 3 + 5, S.g⟩ (S.n + 4 + 12 + 6 + 3 + 3) (by simp [one1, h5])
          rw [hlen]
          exact this
    · have hin : i = signs.length := by omega
      subst hin
      rw [List.take_of_length_le (Nat.le_refl _)] at hq hv
      have hr : writeS signs place = wrL place 0 signs := by rw [writeS, if_pos ⟨by omega, by omega, hq⟩]
      simp [AW_seq, AW_reg, AW_regD, AW_block, AW_cond, AW_skip, AW_exit, AW_ret, AW_scp, condR_true, condR_false, AThen_normal, AThen_ret, AThen_exit, ABlock_normal, ABlock_ret, ABlock_exit, AScope_normal, AScope_ret, AScope_exit, RetK_ret, RetK_normal, retAV_one, retAV_two, retAV_three, retAV_nil, RG_nil, RG_op, RG_guard, gdR_tt, gdR_ff, gdR_tf, gdR_ft, gdR_un, RG_call, callQ_clo, contK_ap, opR_some, RD_nil, RD_op0, RD_op1, opD0_some, opD1_some, RD_call, callQD_clo, RD_guard, gdD_tt, gdD_ff, gdD_tf, gdD_ft, gdD_un, psh_nil, psh_cons, Apt_nil, Apt_nilT, Apt_true, Apt_false, Dis_def, runT_val, runT_rd, runT_wr, runT_new, runT_mv, ex, put_some, put_none, ev_t, ev_c, argF_zero, argF_succ, set_g, set_n, cells_v, cells_sl, cells_agg, cells_own, cells_ptr, cells_clo, cells_eptr, cells_mp, putc, exBslice, lfill, exField, exIdxV, exIdxP, exBox, exAlloc, exLoad, exStore, exFieldA, exIdxA, exLen, exPick, exUn, exBeq, exMM, exSeq, seqGo, exExt, binV, intOp, subc, AV.solid, S0, encI, encB, e6, e0, e1, encIs, hr]
      exact hv.fzN
theorem caesuraref18_Write_body (P : Program) (signs : List Int) (place : Int) (hl : signs.length ≤ 1000000) : AW P c_caesuraref18_Write (RetK [4] (FzK (encIs (writeS signs place)))) (argF [encIs signs, encI place]) S0 :=
  AW_mono _ (fun e a S h => RetK_mono (fun r S h => h.fz) h) (caesuraref18_Write_bodyN P signs place hl)
def wrJ (signs : List Int) (place : Int) (m : Nat) (f : AF) (S : St) : Prop :=
  ∃ i : Nat, i ≤ signs.length ∧ m = signs.length - i ∧ f 24 = encI i ∧ f 23 = encI signs.length ∧ f 22 = encIs signs ∧ f 1 = encI place ∧ Vec S.g (f 6) 1 ((wrL place 0 (signs.take i)).map encI)
theorem path_Write_bodyN {P : Program} {f1 fc : FuncId} (signs : List Int) (place : Int) (hl : signs.length ≤ 1000000)
    (hc : PureC P fc [encIs signs, .clo f1 [] []] (encB (signs.any oddS))) : AW P (c_path_Write f1 fc) (RetK [4] (FzNK (encIs (writeS signs place)))) (argF [encIs signs, encI place]) S0 := by
  by_cases h1 : place < 1
  · have hr : writeS signs place = [] := by rw [writeS, if_neg (by omega)]
    simp [AW_seq, AW_reg, AW_regD, AW_block, AW_cond, AW_skip, AW_exit, AW_ret, AW_scp, condR_true, condR_false, AThen_normal, AThen_ret, AThen_exit, ABlock_normal, ABlock_ret, ABlock_exit, AScope_normal, AScope_ret, AScope_exit, RetK_ret, RetK_normal, retAV_one, retAV_two, retAV_three, retAV_nil, RG_nil, RG_op, RG_guard, gdR_tt, gdR_ff, gdR_tf, gdR_ft, gdR_un, RG_call, callQ_clo, contK_ap, opR_some, RD_nil, RD_op0, RD_op1, opD0_some, opD1_some, RD_call, callQD_clo, RD_guard, gdD_tt, gdD_ff, gdD_tf, gdD_ft, gdD_un, psh_nil, psh_cons, Apt_nil, Apt_nilT, Apt_true, Apt_false, Dis_def, runT_val, runT_rd, runT_wr, runT_new, runT_mv, ex, put_some, put_none, ev_t, ev_c, argF_zero, argF_succ, set_g, set_n, cells_v, cells_sl, cells_agg, cells_own, cells_ptr, cells_clo, cells_eptr, cells_mp, putc, exBslice, lfill, exField, exIdxV, exIdxP, exBox, exAlloc, exLoad, exStore, exFieldA, exIdxA, exLen, exPick, exUn, exBeq, exMM, exSeq, seqGo, exExt, binV, intOp, subc, AV.solid, S0, encI, encB, c_path_Write, encIs, h1, hr]
    exact .nil true false (by simp)
  by_cases h2 : (signs.length : Int) ≤ place
  · have hr : writeS signs place = [] := by rw [writeS, if_neg (by omega)]
    simp [AW_seq, AW_reg, AW_regD, AW_block, AW_cond, AW_skip, AW_exit, AW_ret, AW_scp, condR_true, condR_false, AThen_normal, AThen_ret, AThen_exit, ABlock_normal, ABlock_ret, ABlock_exit, AScope_normal, AScope_ret, AScope_exit, RetK_ret, RetK_normal, retAV_one, retAV_two, retAV_three, retAV_nil, RG_nil, RG_op, RG_guard, gdR_tt, gdR_ff, gdR_tf, gdR_ft, gdR_un, RG_call, callQ_clo, contK_ap, opR_some, RD_nil, RD_op0, RD_op1, opD0_some, opD1_some, RD_call, callQD_clo, RD_guard, gdD_tt, gdD_ff, gdD_tf, gdD_ft, gdD_un, psh_nil, psh_cons, Apt_nil, Apt_nilT, Apt_true, Apt_false, Dis_def, runT_val, runT_rd, runT_wr, runT_new, runT_mv, ex, put_some, put_none, ev_t, ev_c, argF_zero, argF_succ, set_g, set_n, cells_v, cells_sl, cells_agg, cells_own, cells_ptr, cells_clo, cells_eptr, cells_mp, putc, exBslice, lfill, exField, exIdxV, exIdxP, exBox, exAlloc, exLoad, exStore, exFieldA, exIdxA, exLen, exPick, exUn, exBeq, exMM, exSeq, seqGo, exExt, binV, intOp, subc, AV.solid, S0, encI, encB, c_path_Write, encIs, h1, h2, hr]
    exact .nil true false (by simp)
  simp [AW_seq, AW_reg, AW_regD, AW_block, AW_cond, AW_skip, AW_exit, AW_ret, AW_scp, condR_true, condR_false, AThen_normal, AThen_ret, AThen_exit, ABlock_normal, ABlock_ret, ABlock_exit, AScope_normal, AScope_ret, AScope_exit, RetK_ret, RetK_normal, retAV_one, retAV_two, retAV_three, retAV_nil, RG_nil, RG_op, RG_guard, gdR_tt, gdR_ff, gdR_tf, gdR_ft, gdR_un, RG_call, callQ_clo, contK_ap, opR_some, RD_nil, RD_op0, RD_op1, opD0_some, opD1_some, RD_call, callQD_clo, RD_guard, gdD_tt, gdD_ff, gdD_tf, gdD_ft, gdD_un, psh_nil, psh_cons, Apt_nil, Apt_nilT, Apt_true, Apt_false, Dis_def, runT_val, runT_rd, runT_wr, runT_new, runT_mv, ex, put_some, put_none, ev_t, ev_c, argF_zero, argF_succ, set_g, set_n, cells_v, cells_sl, cells_agg, cells_own, cells_ptr, cells_clo, cells_eptr, cells_mp, putc, exBslice, lfill, exField, exIdxV, exIdxP, exBox, exAlloc, exLoad, exStore, exFieldA, exIdxA, exLen, exPick, exUn, exBeq, exMM, exSeq, seqGo, exExt, binV, intOp, subc, AV.solid, S0, encI, encB, c_path_Write, encIs, h1, h2]
  refine CallR.pure hc (cl_cons (closed_Is signs) (cl_cons (.clo _ _ _ cl_nil cl_nil) cl_nil)) (closed_B _) ?_
  cases hany : signs.any oddS with
  | true =>
    have hr : writeS signs place = [] := by rw [writeS, if_neg (by simp [hany])]
    simp [AW_seq, AW_reg, AW_regD, AW_block, AW_cond, AW_skip, AW_exit, AW_ret, AW_scp, condR_true, condR_false, AThen_normal, AThen_ret, AThen_exit, ABlock_normal, ABlock_ret, ABlock_exit, AScope_normal, AScope_ret, AScope_exit, RetK_ret, RetK_normal, retAV_one, retAV_two, retAV_three, retAV_nil, RG_nil, RG_op, RG_guard, gdR_tt, gdR_ff, gdR_tf, gdR_ft, gdR_un, RG_call, callQ_clo, contK_ap, opR_some, RD_nil, RD_op0, RD_op1, opD0_some, opD1_some, RD_call, callQD_clo, RD_guard, gdD_tt, gdD_ff, gdD_tf, gdD_ft, gdD_un, psh_nil, psh_cons, Apt_nil, Apt_nilT, Apt_true, Apt_false, Dis_def, runT_val, runT_rd, runT_wr, runT_new, runT_mv, ex, put_some, put_none, ev_t, ev_c, argF_zero, argF_succ, set_g, set_n, cells_v, cells_sl, cells_agg, cells_own, cells_ptr, cells_clo, cells_eptr, cells_mp, putc, exBslice, lfill, exField, exIdxV, exIdxP, exBox, exAlloc, exLoad, exStore, exFieldA, exIdxA, exLen, exPick, exUn, exBeq, exMM, exSeq, seqGo, exExt, binV, intOp, subc, AV.solid, S0, encI, encB, hr]
    exact .nil true false (by simp)
  | false =>
    have hr : writeS signs place = wrL place 0 signs := by rw [writeS, if_pos ⟨by omega, by omega, hany⟩]
    simp [AW_seq, AW_reg, AW_regD, AW_block, AW_cond, AW_skip, AW_exit, AW_ret, AW_scp, condR_true, condR_false, AThen_normal, AThen_ret, AThen_exit, ABlock_normal, ABlock_ret, ABlock_exit, AScope_normal, AScope_ret, AScope_exit, RetK_ret, RetK_normal, retAV_one, retAV_two, retAV_three, retAV_nil, RG_nil, RG_op, RG_guard, gdR_tt, gdR_ff, gdR_tf, gdR_ft, gdR_un, RG_call, callQ_clo, contK_ap, opR_some, RD_nil, RD_op0, RD_op1, opD0_some, opD1_some, RD_call, callQD_clo, RD_guard, gdD_tt, gdD_ff, gdD_tf, gdD_ft, gdD_un, psh_nil, psh_cons, Apt_nil, Apt_nilT, Apt_true, Apt_false, Dis_def, runT_val, runT_rd, runT_wr, runT_new, runT_mv, ex, put_some, put_none, ev_t, ev_c, argF_zero, argF_succ, set_g, set_n, cells_v, cells_sl, cells_agg, cells_own, cells_ptr, cells_clo, cells_eptr, cells_mp, putc, exBslice, lfill, exField, exIdxV, exIdxP, exBox, exAlloc, exLoad, exStore, exFieldA, exIdxA, exLen, exPick, exUn, exBeq, exMM, exSeq, seqGo, exExt, binV, intOp, subc, AV.solid, S0, encI, encB, hr]
    refine AW_loop (wrJ signs place) signs.length ?_ ?_
    · refine ⟨0, by omega, by omega, ?_, ?_, ?_, ?_, ?_⟩ <;> simp [put_some, argF_zero, argF_succ, encI, encIs, wrL]
      exact .nil
    · rintro m f S ⟨i, hi, rfl, e24, e23, e22, e1, hv⟩
      by_cases hlt : i < signs.length
      · have hok : oddS signs[i] = false := by
          rw [List.any_eq_false] at hany
          simpa using hany _ (List.getElem_mem hlt)
        have hb : 0 ≤ signs[i] ∧ signs[i] ≤ 1048576 := by simp [oddS] at hok; omega
        have hlen : (wrL place 0 (signs.take i)).length = i := by rw [wrL_length]; simp; omega
        have happ := fun (n nid : Nat) (x : AV) (hx : x.cells.length = 1) => Vec.app (n := n) (nid := nid) (by_ := 8) hv (cells_I _) hx (appOk8 (by rw [List.length_map, hlen]; omega))
        have hnx : ∀ (v : Int) (S' : St) (id : Nat), 2 * signs[i] + one1 place i = v → Vec (((St.without S' (f 6)).set id (some (.arr 1 ((wrL place 0 (signs.take i)).map encI ++ [encI v])))).g) (.own id 0 (i + 1)) 1 ((wrL place 0 (signs.take (i + 1))).map encI) := by
          intro v S' id hv'
          refine .mk' ?_ ?_
          · rw [wr_take _ _ _ hlt, hv']; simp [set_g]
          · simp [wrL_length]; omega
        simp [AW_seq, AW_reg, AW_regD, AW_block, AW_cond, AW_skip, AW_exit, AW_ret, AW_scp, condR_true, condR_false, AThen_normal, AThen_ret, AThen_exit, ABlock_normal, ABlock_ret, ABlock_exit, AScope_normal, AScope_ret, AScope_exit, RetK_ret, RetK_normal, retAV_one, retAV_two, retAV_three, retAV_nil, RG_nil, RG_op, RG_guard, gdR_tt, gdR_ff, gdR_tf, gdR_ft, gdR_un, RG_call, callQ_clo, contK_ap, opR_some, RD_nil, RD_op0, RD_op1, opD0_some, opD1_some, RD_call, callQD_clo, RD_guard, gdD_tt, gdD_ff, gdD_tf, gdD_ft, gdD_un, psh_nil, psh_cons, Apt_nil, Apt_nilT, Apt_true, Apt_false, Dis_def, runT_val, runT_rd, runT_wr, runT_new, runT_mv, ex, put_some, put_none, ev_t, ev_c, argF_zero, argF_succ, set_g, set_n, cells_v, cells_sl, cells_agg, cells_own, cells_ptr, cells_clo, cells_eptr, cells_mp, putc, exBslice, lfill, exField, exIdxV, exIdxP, exBox, exAlloc, exLoad, exStore, exFieldA, exIdxA, exLen, exPick, exUn, exBeq, exMM, exSeq, seqGo, exExt, binV, intOp, subc, AV.solid, S0, encI, encB, e24, e23, e22, e1, encIs, hlt]
        rw [happ _ _ _ (by simp [AV.cells]), wrap_in _ (by omega)]
        by_cases h5 : (i : Int) = place
        · have hc5 : ((i : Int) == place) = true := by simpa using h5
          have hat : ((wrL place 0 (signs.take i)).map encI ++ [AV.v (.int .i64 (2 * signs[i]))])[i]? = some (AV.v (.int .i64 (2 * signs[i]))) := by
            rw [List.getElem?_append_right (by simp [hlen])]; simp [hlen]
          have hlt1 : (i : Int) < i + 1 := by omega
          simp [AW_seq, AW_reg, AW_regD, AW_block, AW_cond, AW_skip, AW_exit, AW_ret, AW_scp, condR_true, condR_false, AThen_normal, AThen_ret, AThen_exit, ABlock_normal, ABlock_ret, ABlock_exit, AScope_normal, AScope_ret, AScope_exit, RetK_ret, RetK_normal, retAV_one, retAV_two, retAV_three, retAV_nil, RG_nil, RG_op, RG_guard, gdR_tt, gdR_ff, gdR_tf, gdR_ft, gdR_un, RG_call, callQ_clo, contK_ap, opR_some, RD_nil, RD_op0, RD_op1, opD0_some, opD1_some, RD_call, callQD_clo, RD_guard, gdD_tt, gdD_ff, gdD_tf, gdD_ft, gdD_un, psh_nil, psh_cons, Apt_nil, Apt_nilT, Apt_true, Apt_false, Dis_def, runT_val, runT_rd, runT_wr, runT_new, runT_mv, ex, put_some, put_none, ev_t, ev_c, argF_zero, argF_succ, set_g, set_n, cells_v, cells_sl, cells_agg, cells_own, cells_ptr, cells_clo, cells_eptr, cells_mp, putc, exBslice, lfill, exField, exIdxV, exIdxP, exBox, exAlloc, exLoad, exStore, exFieldA, exIdxA, exLen, exPick, exUn, exBeq, exMM, exSeq, seqGo, exExt, binV, intOp, subc, AV.solid, S0, encI, encB, e24, e23, e22, e1, encIs, hc5, hlen, hat, hlt1]
          rw [wrap_in _ (by omega), wrap_in _ (by omega)]
          refine ⟨signs.length - (i + 1), by omega, i + 1, by omega, rfl, ?_, ?_, ?_, ?_, ?_⟩
          · simp [put_some, h5, encI]
          · simp [put_some, e23, encI]
          · simp [put_some, e22, encIs]
          · simp [put_some, e1]
          · simp only [put_some]
            simp only [Nat.reduceEqDiff, if_false, if_true]
            refine .mk' ?_ ?_
            · rw [wr_take _ _ _ hlt]; simp [set_g, one1, h5, encI]
            · simp [wrL_length]; omega
        · have hc5 : ((i : Int) == place) = false := by simpa using h5
          simp [AW_seq, AW_reg, AW_regD, AW_block, AW_cond, AW_skip, AW_exit, AW_ret, AW_scp, condR_true, condR_false, AThen_normal, AThen_ret, AThen_exit, ABlock_normal, ABlock_ret, ABlock_exit, AScope_normal, AScope_ret, AScope_exit, RetK_ret, RetK_normal, retAV_one, retAV_two, retAV_three, retAV_nil, RG_nil, RG_op, RG_guard, gdR_tt, gdR_ff, gdR_tf, gdR_ft, gdR_un, RG_call, callQ_clo, contK_ap, opR_some, RD_nil, RD_op0, RD_op1, opD0_some, opD1_some, RD_call, callQD_clo, RD_guard, gdD_tt, gdD_ff, gdD_tf, gdD_ft, gdD_un, psh_nil, psh_cons, Apt_nil, Apt_nilT, Apt_true, Apt_false, Dis_def, runT_val, runT_rd, runT_wr, runT_new, runT_mv, ex, put_some, put_none, ev_t, ev_c, argF_zero, argF_succ, set_g, set_n, cells_v, cells_sl, cells_agg, cells_own, cells_ptr, cells_clo, cells_eptr, cells_mp, putc, exBslice, lfill, exField, exIdxV, exIdxP, exBox, exAlloc, exLoad, exStore, exFieldA, exIdxA, exLen, exPick, exUn, exBeq, exMM, exSeq, seqGo, exExt, binV, intOp, subc, AV.solid, S0, encI, encB, e24, e23, e22, e1, encIs, hc5]
          rw [wrap_in _ (by omega)]
          refine ⟨signs.length - (i + 1), by omega, i + 1, by omega, rfl, ?_, ?_, ?_, ?_, ?_⟩
          · simp [put_some, encI]
          · simp [put_some, e23, encI]
          · simp [put_some, e22, encIs]
          · simp [put_some, e1]
          · simp only [put_some]
            simp only [Nat.reduceEqDiff, if_false, if_true]
            have := hnx (2 * signs[i]) ⟨S.n + 1 + 5 + 6, S.g⟩ (S.n + 1 + 5 + 4) (by simp [one1, h5])
            rw [hlen]
            exact this
      · have hin : i = signs.length := by omega
        subst hin
        rw [List.take_of_length_le (Nat.le_refl _)] at hv
        simp [AW_seq, AW_reg, AW_regD, AW_block, AW_cond, AW_skip, AW_exit, AW_ret, AW_scp, condR_true, condR_false, AThen_normal, AThen_ret, AThen_exit, ABlock_normal, ABlock_ret, ABlock_exit, AScope_normal, AScope_ret, AScope_exit, RetK_ret, RetK_normal, retAV_one, retAV_two, retAV_three, retAV_nil, RG_nil, RG_op, RG_guard, gdR_tt, gdR_ff, gdR_tf, gdR_ft, gdR_un, RG_call, callQ_clo, contK_ap, opR_some, RD_nil, RD_op0, RD_op1, opD0_some, opD1_some, RD_call, callQD_clo, RD_guard, gdD_tt, gdD_ff, gdD_tf, gdD_ft, gdD_un, psh_nil, psh_cons, Apt_nil, Apt_nilT, Apt_true, Apt_false, Dis_def, runT_val, runT_rd, runT_wr, runT_new, runT_mv, ex, put_some, put_none, ev_t, ev_c, argF_zero, argF_succ, set_g, set_n, cells_v, cells_sl, cells_agg, cells_own, cells_ptr, cells_clo, cells_eptr, cells_mp, putc, exBslice, lfill, exField, exIdxV, exIdxP, exBox, exAlloc, exLoad, exStore, exFieldA, exIdxA, exLen, exPick, exUn, exBeq, exMM, exSeq, seqGo, exExt, binV, intOp, subc, AV.solid, S0, encI, encB, e24, e23, e22, e1, encIs]
        exact hv.fzN
theorem path_Write_body {P : Program} {f1 fc : FuncId} (signs : List Int) (place : Int) (hl : signs.length ≤ 1000000)
    (hc : PureC P fc [encIs signs, .clo f1 [] []] (encB (signs.any oddS))) : AW P (c_path_Write f1 fc) (RetK [4] (FzK (encIs (writeS signs place)))) (argF [encIs signs, encI place]) S0 :=
  AW_mono _ (fun e a S h => RetK_mono (fun r S h => h.fz) h) (path_Write_bodyN signs place hl hc)
end Go.Rf
