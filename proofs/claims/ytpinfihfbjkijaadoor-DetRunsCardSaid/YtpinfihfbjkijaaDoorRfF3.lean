import Derived.Test.YtpinfihfbjkijaaDoorRfF1
import Derived.Test.YtpinfihfbjkijaaDoorRfB16
import Derived.Test.YtpinfihfbjkijaaDoorRfN1
/- Own work: DetRuns. -/
set_option linter.unusedVariables false
set_option linter.unusedSimpArgs false
namespace Go.Rf
open Go.RowKit

def c_dr_loop : AC :=
  (.block 0 (.loop (.seq (.seq (.reg none [
     ⟨(some 55), .mv (.t 10), none, none⟩,
     ⟨(some 56), .mv (.t 2), none, none⟩,
     ⟨(some 57), .len (.t 56), none, none⟩,
     ⟨(some 58), .bin .lss (.t 55) (.t 57), none, none⟩])
    (.cond (.t 58) .skip (.exit 0)))
    (.seq (.block 1 (.seq (.seq (.reg (some []) [
      ⟨(some 61), .mv (.t 2), none, none⟩,
      ⟨(some 62), .mv (.t 10), none, none⟩,
      ⟨(some 63), .idxA 1 (.t 61) (.t 62), none, none⟩,
      ⟨(some 64), .load none (.t 63), none, none⟩,
      ⟨(some 65), .bin .lss (.t 64) (.c (.v (.int .i64 0))), none, none⟩,
      ⟨(some 66), .mv (.t 65), none, none⟩,
      ⟨(some 67), .mv (.t 2), (some (66, false)), none⟩,
      ⟨(some 68), .mv (.t 10), (some (66, false)), none⟩,
      ⟨(some 69), .idxA 1 (.t 67) (.t 68), (some (66, false)), none⟩,
      ⟨(some 70), .load none (.t 69), (some (66, false)), none⟩,
      ⟨(some 71), .fieldA 0 (.t 3), (some (66, false)), none⟩,
      ⟨(some 72), .load none (.t 71), (some (66, false)), none⟩,
      ⟨(some 73), .bin .geq (.t 70) (.t 72), (some (66, false)), none⟩,
      ⟨(some 74), .pick (.t 66) (.c (.v (.bool true))) (.t 73), none, none⟩])
     (.cond (.t 74) (.seq (.reg none [
       ⟨(some 75), .mv (.t 8), none, none⟩,
       ⟨(some 76), .bin .eql (.t 75) (.c (.v (.int .i64 (-1)))), none, none⟩,
       ⟨(some 6), .mv (.t 76), none, none⟩])
      .ret) .skip))
     (.reg (some []) [
      ⟨(some 77), .fieldA 1 (.t 3), none, none⟩,
      ⟨(some 78), .load none (.t 77), none, none⟩,
      ⟨(some 79), .mv (.t 9), none, none⟩,
      ⟨(some 80), .idxA 1 (.t 78) (.t 79), none, none⟩,
      ⟨(some 81), .load none (.t 80), none, none⟩,
      ⟨(some 82), .mv (.t 2), none, none⟩,
      ⟨(some 83), .mv (.t 10), none, none⟩,
      ⟨(some 84), .idxA 1 (.t 82) (.t 83), none, none⟩,
      ⟨(some 85), .load none (.t 84), none, none⟩,
      ⟨(some 86), .idxA 1 (.t 81) (.t 85), none, none⟩,
      ⟨(some 87), .load none (.t 86), none, none⟩,
      ⟨(some 9), .mv (.t 87), none, none⟩])))
    (.reg none [
     ⟨(some 59), .mv (.t 10), none, none⟩,
     ⟨(some 60), .bin .add (.t 59) (.c (.v (.int .i64 1))), none, none⟩,
     ⟨(some 10), .mv (.t 60), none, none⟩])))))
def c_dr_end (f_det_Accepts : FuncId) : AC :=
  (.seq (.reg (some []) [
   ⟨(some 88), .mv (.t 8), none, none⟩,
   ⟨(some 89), .mv (.t 9), none, none⟩,
   ⟨(some 90), .bin .eql (.t 88) (.t 89), none, none⟩,
   ⟨(some 91), .mv (.t 90), none, none⟩,
   ⟨(some 92), .load (some 3) (.t 3), (some (91, true)), none⟩,
   ⟨(some 93), .mv (.t 1), (some (91, true)), none⟩,
   ⟨(some 94), .mv (.c .junk), (some (91, true)), (some ((.c (.clo f_det_Accepts [] [])), [(.t 92), (.t 93)]))⟩,
   ⟨(some 95), .fieldA 2 (.t 3), (some (91, true)), none⟩,
   ⟨(some 96), .load none (.t 95), (some (91, true)), none⟩,
   ⟨(some 97), .mv (.t 7), (some (91, true)), none⟩,
   ⟨(some 98), .idxA 1 (.t 96) (.t 97), (some (91, true)), none⟩,
   ⟨(some 99), .load none (.t 98), (some (91, true)), none⟩,
   ⟨(some 100), .beq false (.t 94) (.t 99), (some (91, true)), none⟩,
   ⟨(some 101), .pick (.t 91) (.t 100) (.c (.v (.bool false))), none, none⟩,
   ⟨(some 102), .mv (.t 101), none, none⟩,
   ⟨(some 103), .mv (.t 7), (some (102, true)), none⟩,
   ⟨(some 104), .fieldA 1 (.t 3), (some (102, true)), none⟩,
   ⟨(some 105), .load none (.t 104), (some (102, true)), none⟩,
   ⟨(some 106), .len (.t 105), (some (102, true)), none⟩,
   ⟨(some 107), .bin .lss (.t 103) (.t 106), (some (102, true)), none⟩,
   ⟨(some 108), .pick (.t 102) (.t 107) (.c (.v (.bool false))), none, none⟩,
   ⟨(some 6), .mv (.t 108), none, none⟩])
  .ret)
def c_dr_rest (f_det_Right f_det_Accepts : FuncId) : AC :=
  (.seq (.seq (.reg none [
   ⟨(some 35), .load (some 3) (.t 3), none, none⟩,
   ⟨(some 36), .mv (.c .junk), none, (some ((.c (.clo f_det_Right [] [])), [(.t 35)]))⟩,
   ⟨(some 37), .un .not (.t 36), none, none⟩])
  (.cond (.t 37) (.seq (.reg none [
    ⟨(some 38), .mv (.t 7), none, none⟩,
    ⟨(some 39), .bin .eql (.t 38) (.c (.v (.int .i64 (-1)))), none, none⟩,
    ⟨(some 40), .mv (.t 39), none, none⟩,
    ⟨(some 41), .mv (.t 8), (some (40, true)), none⟩,
    ⟨(some 42), .bin .eql (.t 41) (.c (.v (.int .i64 (-1)))), (some (40, true)), none⟩,
    ⟨(some 43), .pick (.t 40) (.t 42) (.c (.v (.bool false))), none, none⟩,
    ⟨(some 6), .mv (.t 43), none, none⟩])
   .ret) .skip))
  (.seq (.seq (.reg none [
   ⟨(some 44), .mv (.t 7), none, none⟩,
   ⟨(some 45), .bin .lss (.t 44) (.c (.v (.int .i64 0))), none, none⟩])
  (.cond (.t 45) (.seq (.reg none [
    ⟨(some 46), .mv (.t 8), none, none⟩,
    ⟨(some 47), .bin .eql (.t 46) (.c (.v (.int .i64 (-1)))), none, none⟩,
    ⟨(some 48), .mv (.t 47), none, none⟩,
    ⟨(some 49), .load (some 3) (.t 3), (some (48, true)), none⟩,
    ⟨(some 50), .mv (.t 1), (some (48, true)), none⟩,
    ⟨(some 51), .mv (.c .junk), (some (48, true)), (some ((.c (.clo f_det_Accepts [] [])), [(.t 49), (.t 50)]))⟩,
    ⟨(some 52), .un .not (.t 51), (some (48, true)), none⟩,
    ⟨(some 53), .pick (.t 48) (.t 52) (.c (.v (.bool false))), none, none⟩,
    ⟨(some 6), .mv (.t 53), none, none⟩])
   .ret) .skip))
  (.seq (.reg none [
   ⟨(some 54), .mv (.t 7), none, none⟩,
   ⟨(some 9), .mv (.t 54), none, none⟩])
  (.seq (.seq (.reg none [
   ⟨(some 10), .mv (.c (.v (.int .i64 0))), none, none⟩])
  c_dr_loop)
  (c_dr_end f_det_Accepts)))))
def c_dr_y (f_det_Run f_det_Right f_det_Accepts : FuncId) : AC :=
  (.seq (.reg (some [[], [], [], [false, false, true], [true], [false, false, false, false, true]]) [
   ⟨(some 28), .load (some 3) (.t 3), none, none⟩,
   ⟨(some 29), .bslice 1 0 (.v (.int .i64 0)) [], none, none⟩,
   ⟨(some 30), .mv (.t 1), none, none⟩,
   ⟨(some 31), .app 1 8 (.t 29) (.t 30), none, none⟩,
   ⟨(some 32), .mv (.t 2), none, none⟩,
   ⟨(some 33), .app 1 8 (.t 31) (.t 32), none, none⟩,
   ⟨(some 34), .mv (.c .junk), none, (some ((.c (.clo f_det_Run [] [])), [(.t 28), (.t 33)]))⟩,
   ⟨(some 8), .mv (.t 34), none, none⟩])
  (c_dr_rest f_det_Right f_det_Accepts))
def c_caesuralaw15_DetRuns (f_caesuralaw15_alive f_caesuraref15_Great f_det_Run f_det_Right f_det_Accepts : FuncId) : AC :=
  (.seq (.reg none [
   ⟨(some 3), .box 3 (.t 0), none, none⟩,
   ⟨(some 6), .mv (.c (.v (.bool false))), none, none⟩])
  (.seq (.seq (.reg none [
   ⟨(some 11), .mv (.c .junk), none, (some ((.c (.clo f_caesuralaw15_alive [] [])), []))⟩,
   ⟨(some 12), .un .not (.t 11), none, none⟩])
  (.cond (.t 12) (.seq (.reg none [
    ⟨(some 6), .mv (.c (.v (.bool false))), none, none⟩])
   .ret) .skip))
  (.seq (.seq (.reg none [
   ⟨(some 13), .load (some 3) (.t 3), none, none⟩,
   ⟨(some 14), .mv (.c .junk), none, (some ((.c (.clo f_caesuraref15_Great [] [])), [(.t 13), (.c (.v (.int .i64 2000)))]))⟩,
   ⟨(some 15), .mv (.t 14), none, none⟩,
   ⟨(some 16), .mv (.t 1), (some (15, false)), none⟩,
   ⟨(some 17), .len (.t 16), (some (15, false)), none⟩,
   ⟨(some 18), .bin .gtr (.t 17) (.c (.v (.int .i64 100))), (some (15, false)), none⟩,
   ⟨(some 19), .pick (.t 15) (.c (.v (.bool true))) (.t 18), none, none⟩,
   ⟨(some 20), .mv (.t 19), none, none⟩,
   ⟨(some 21), .mv (.t 2), (some (20, false)), none⟩,
   ⟨(some 22), .len (.t 21), (some (20, false)), none⟩,
   ⟨(some 23), .bin .gtr (.t 22) (.c (.v (.int .i64 100))), (some (20, false)), none⟩,
   ⟨(some 24), .pick (.t 20) (.c (.v (.bool true))) (.t 23), none, none⟩])
  (.cond (.t 24) (.seq (.reg none [
    ⟨(some 6), .mv (.c (.v (.bool true))), none, none⟩])
   .ret) .skip))
  (.seq (.reg none [
   ⟨(some 25), .load (some 3) (.t 3), none, none⟩,
   ⟨(some 26), .mv (.t 1), none, none⟩,
   ⟨(some 27), .mv (.c .junk), none, (some ((.c (.clo f_det_Run [] [])), [(.t 25), (.t 26)]))⟩,
   ⟨(some 7), .mv (.t 27), none, none⟩])
  (c_dr_y f_det_Run f_det_Right f_det_Accepts)))))
theorem runFrom_app (d : Det) : ∀ (l m : List Int) (a : Nat), runFrom d a (l ++ m) = match runFrom d a l with | none => none | some b => runFrom d b m
  | [], m, a => rfl
  | s :: l, m, a => by
    simp only [List.cons_append, runFrom]
    split
    · exact runFrom_app d l m _
    · rfl
structure DrS (d : Det) (a b : List Int) (x y : Int) (f : AF) (S : St) : Prop where
  e1 : f 1 = encIs a
  e2 : f 2 = encIs b
  e3 : f 3 = .ptr 0 0 0
  e7 : f 7 = encI x
  e8 : f 8 = encI y
  g0 : S.g 0 = some (.arr 3 [encDet d])
def DrI (d : Det) (a b : List Int) (p : Nat) (y : Option Nat) (i : Nat) (f : AF) (S : St) : Prop :=
  DrS d a b p (numO y) f S ∧ f 10 = encI i ∧ ∃ q : Nat, q < d.next.length ∧ f 9 = encI q ∧ y = runFrom d q (b.drop i)
theorem dr_loop {P : Program} {d : Det} (R : RightD d) {a b : List Int} (hb : b.length ≤ 1000) {p : Nat} {y : Option Nat} {f : AF} {S : St} {Q : Exit → AF → St → Prop} (hI : DrI d a b p y 0 f S)
    (hret : ∀ f' S', f' 6 = encB true → Q .ret f' S') (hQ : ∀ f' S', DrI d a b p y b.length f' S' → Q .normal f' S') : AW P c_dr_loop Q f S := by
  simp [AW_seq, AW_reg, AW_regD, AW_block, AW_cond, AW_skip, AW_exit, AW_ret, AW_scp, condR_true, condR_false, AThen_normal, AThen_ret, AThen_exit, ABlock_normal, ABlock_ret, ABlock_exit, AScope_normal, AScope_ret, AScope_exit, RetK_ret, RetK_normal, retAV_one, retAV_two, retAV_three, retAV_nil, RG_nil, RG_op, RG_guard, gdR_tt, gdR_ff, gdR_tf, gdR_ft, gdR_un, RG_call, callQ_clo, contK_ap, opR_some, RD_nil, RD_op0, RD_op1, opD0_some, opD1_some, RD_call, callQD_clo, RD_guard, gdD_tt, gdD_ff, gdD_tf, gdD_ft, gdD_un, psh_nil, psh_cons, Apt_nil, Apt_nilT, Apt_true, Apt_false, Dis_def, runT_val, runT_rd, runT_wr, runT_new, runT_mv, ex, put_some, put_none, ev_t, ev_c, argF_zero, argF_succ, set_g, set_n, cells_v, cells_sl, cells_agg, cells_own, cells_ptr, cells_clo, cells_eptr, cells_mp, putc, exBslice, lfill, exField, exIdxV, exIdxP, exBox, exAlloc, exLoad, exStore, exFieldA, exIdxA, exLen, exPick, exUn, exBeq, exMM, exSeq, seqGo, exExt, binV, intOp, subc, AV.solid, S0, encI, encB, c_dr_loop]
  refine AW_for b.length (DrI d a b p y) hI ?_
  rintro i f S hi ⟨⟨e1, e2, e3, e7, e8, g0⟩, e10, q, hq, e9, hy⟩
  have kept := g0
  by_cases hlt : i < b.length
  · rw [List.drop_eq_getElem_cons hlt, runFrom] at hy
    by_cases h0 : b[i] < 0
    · rw [if_neg (by omega)] at hy
      subst hy
      simp [AW_seq, AW_reg, AW_regD, AW_block, AW_cond, AW_skip, AW_exit, AW_ret, AW_scp, condR_true, condR_false, AThen_normal, AThen_ret, AThen_exit, ABlock_normal, ABlock_ret, ABlock_exit, AScope_normal, AScope_ret, AScope_exit, RetK_ret, RetK_normal, retAV_one, retAV_two, retAV_three, retAV_nil, RG_nil, RG_op, RG_guard, gdR_tt, gdR_ff, gdR_tf, gdR_ft, gdR_un, RG_call, callQ_clo, contK_ap, opR_some, RD_nil, RD_op0, RD_op1, opD0_some, opD1_some, RD_call, callQD_clo, RD_guard, gdD_tt, gdD_ff, gdD_tf, gdD_ft, gdD_un, psh_nil, psh_cons, Apt_nil, Apt_nilT, Apt_true, Apt_false, Dis_def, runT_val, runT_rd, runT_wr, runT_new, runT_mv, ex, put_some, put_none, ev_t, ev_c, argF_zero, argF_succ, set_g, set_n, cells_v, cells_sl, cells_agg, cells_own, cells_ptr, cells_clo, cells_eptr, cells_mp, putc, exBslice, lfill, exField, exIdxV, exIdxP, exBox, exAlloc, exLoad, exStore, exFieldA, exIdxA, exLen, exPick, exUn, exBeq, exMM, exSeq, seqGo, exExt, binV, intOp, subc, AV.solid, S0, encI, encB, e1, e2, e3, e7, e8, e9, e10, g0, encIs, encDet, encIss, encBs, hlt, h0, numO]
      refine hret _ _ ?_
      simp [put_some, encB]
    by_cases hs : d.signs ≤ b[i]
    · rw [if_neg (by omega)] at hy
      subst hy
      simp [AW_seq, AW_reg, AW_regD, AW_block, AW_cond, AW_skip, AW_exit, AW_ret, AW_scp, condR_true, condR_false, AThen_normal, AThen_ret, AThen_exit, ABlock_normal, ABlock_ret, ABlock_exit, AScope_normal, AScope_ret, AScope_exit, RetK_ret, RetK_normal, retAV_one, retAV_two, retAV_three, retAV_nil, RG_nil, RG_op, RG_guard, gdR_tt, gdR_ff, gdR_tf, gdR_ft, gdR_un, RG_call, callQ_clo, contK_ap, opR_some, RD_nil, RD_op0, RD_op1, opD0_some, opD1_some, RD_call, callQD_clo, RD_guard, gdD_tt, gdD_ff, gdD_tf, gdD_ft, gdD_un, psh_nil, psh_cons, Apt_nil, Apt_nilT, Apt_true, Apt_false, Dis_def, runT_val, runT_rd, runT_wr, runT_new, runT_mv, ex, put_some, put_none, ev_t, ev_c, argF_zero, argF_succ, set_g, set_n, cells_v, cells_sl, cells_agg, cells_own, cells_ptr, cells_clo, cells_eptr, cells_mp, putc, exBslice, lfill, exField, exIdxV, exIdxP, exBox, exAlloc, exLoad, exStore, exFieldA, exIdxA, exLen, exPick, exUn, exBeq, exMM, exSeq, seqGo, exExt, binV, intOp, subc, AV.solid, S0, encI, encB, e1, e2, e3, e7, e8, e9, e10, g0, encIs, encDet, encIss, encBs, hlt, h0, hs, numO]
      refine hret _ _ ?_
      simp [put_some, encB]
    rw [if_pos (by omega)] at hy
    obtain ⟨hj, hst, hsl⟩ := step_at R hq (s := b[i]) (by omega) (by omega)
    have h0' : 0 ≤ b[i] := by omega
    simp [AW_seq, AW_reg, AW_regD, AW_block, AW_cond, AW_skip, AW_exit, AW_ret, AW_scp, condR_true, condR_false, AThen_normal, AThen_ret, AThen_exit, ABlock_normal, ABlock_ret, ABlock_exit, AScope_normal, AScope_ret, AScope_exit, RetK_ret, RetK_normal, retAV_one, retAV_two, retAV_three, retAV_nil, RG_nil, RG_op, RG_guard, gdR_tt, gdR_ff, gdR_tf, gdR_ft, gdR_un, RG_call, callQ_clo, contK_ap, opR_some, RD_nil, RD_op0, RD_op1, opD0_some, opD1_some, RD_call, callQD_clo, RD_guard, gdD_tt, gdD_ff, gdD_tf, gdD_ft, gdD_un, psh_nil, psh_cons, Apt_nil, Apt_nilT, Apt_true, Apt_false, Dis_def, runT_val, runT_rd, runT_wr, runT_new, runT_mv, ex, put_some, put_none, ev_t, ev_c, argF_zero, argF_succ, set_g, set_n, cells_v, cells_sl, cells_agg, cells_own, cells_ptr, cells_clo, cells_eptr, cells_mp, putc, exBslice, lfill, exField, exIdxV, exIdxP, exBox, exAlloc, exLoad, exStore, exFieldA, exIdxA, exLen, exPick, exUn, exBeq, exMM, exSeq, seqGo, exExt, binV, intOp, subc, AV.solid, S0, encI, encB, e1, e2, e3, e7, e8, e9, e10, g0, encIs, encDet, encIss, encBs, hlt, h0, hs, hq, hj, hst, h0']
    rw [wrap_in _ (by omega)]
    refine ⟨hlt, ⟨?_, ?_, ?_, ?_, ?_, kept⟩, ?_, stepD d q b[i], hsl, ?_, hy⟩ <;> simp [put_some, e1, e2, e3, e7, e8, encI, encIs]
  · have hi' : i = b.length := by omega
    subst hi'
    simp [AW_seq, AW_reg, AW_regD, AW_block, AW_cond, AW_skip, AW_exit, AW_ret, AW_scp, condR_true, condR_false, AThen_normal, AThen_ret, AThen_exit, ABlock_normal, ABlock_ret, ABlock_exit, AScope_normal, AScope_ret, AScope_exit, RetK_ret, RetK_normal, retAV_one, retAV_two, retAV_three, retAV_nil, RG_nil, RG_op, RG_guard, gdR_tt, gdR_ff, gdR_tf, gdR_ft, gdR_un, RG_call, callQ_clo, contK_ap, opR_some, RD_nil, RD_op0, RD_op1, opD0_some, opD1_some, RD_call, callQD_clo, RD_guard, gdD_tt, gdD_ff, gdD_tf, gdD_ft, gdD_un, psh_nil, psh_cons, Apt_nil, Apt_nilT, Apt_true, Apt_false, Dis_def, runT_val, runT_rd, runT_wr, runT_new, runT_mv, ex, put_some, put_none, ev_t, ev_c, argF_zero, argF_succ, set_g, set_n, cells_v, cells_sl, cells_agg, cells_own, cells_ptr, cells_clo, cells_eptr, cells_mp, putc, exBslice, lfill, exField, exIdxV, exIdxP, exBox, exAlloc, exLoad, exStore, exFieldA, exIdxA, exLen, exPick, exUn, exBeq, exMM, exSeq, seqGo, exExt, binV, intOp, subc, AV.solid, S0, encI, encB, e1, e2, e3, e7, e8, e9, e10, g0, encIs, hlt]
    refine hQ _ _ ⟨⟨?_, ?_, ?_, ?_, ?_, kept⟩, ?_, q, hq, ?_, hy⟩ <;> simp [put_some, e1, e2, e3, e7, e8, e9, e10, encI, encIs]
theorem dr_rest {P : Program} {fr fa : FuncId} {d : Det} {a b : List Int} (hb : b.length ≤ 1000) (hr : PureC P fr [encDet d] (encB (rightD d))) (ha : PureC P fa [encDet d, encIs a] (encB (accD d a))) {f : AF} {S : St}
    (h : DrS d a b (numO (runD d a)) (numO (runD d (a ++ b))) f S) : AW P (c_dr_rest fr fa) (RetK [6] (FzK (encB true))) f S := by
  obtain ⟨e1, e2, e3, e7, e8, g0⟩ := h
  have kept := g0
  have ca := cl_cons (closed_Det d) (cl_cons (closed_Is a) cl_nil)
  have cd := cl_cons (closed_Det d) cl_nil
  simp only [encDet] at g0
  simp [AW_seq, AW_reg, AW_regD, AW_block, AW_cond, AW_skip, AW_exit, AW_ret, AW_scp, condR_true, condR_false, AThen_normal, AThen_ret, AThen_exit, ABlock_normal, ABlock_ret, ABlock_exit, AScope_normal, AScope_ret, AScope_exit, RetK_ret, RetK_normal, retAV_one, retAV_two, retAV_three, retAV_nil, RG_nil, RG_op, RG_guard, gdR_tt, gdR_ff, gdR_tf, gdR_ft, gdR_un, RG_call, callQ_clo, contK_ap, opR_some, RD_nil, RD_op0, RD_op1, opD0_some, opD1_some, RD_call, callQD_clo, RD_guard, gdD_tt, gdD_ff, gdD_tf, gdD_ft, gdD_un, psh_nil, psh_cons, Apt_nil, Apt_nilT, Apt_true, Apt_false, Dis_def, runT_val, runT_rd, runT_wr, runT_new, runT_mv, ex, put_some, put_none, ev_t, ev_c, argF_zero, argF_succ, set_g, set_n, cells_v, cells_sl, cells_agg, cells_own, cells_ptr, cells_clo, cells_eptr, cells_mp, putc, exBslice, lfill, exField, exIdxV, exIdxP, exBox, exAlloc, exLoad, exStore, exFieldA, exIdxA, exLen, exPick, exUn, exBeq, exMM, exSeq, seqGo, exExt, binV, intOp, subc, AV.solid, S0, encI, encB, c_dr_rest, e1, e2, e3, e7, e8, g0]
  refine CallR.pure hr cd (closed_B _) ?_
  cases hR : rightD d with
  | false =>
    have r1 : runD d a = none := by simp [runD, hR]
    have r2 : runD d (a ++ b) = none := by simp [runD, hR]
    simp [AW_seq, AW_reg, AW_regD, AW_block, AW_cond, AW_skip, AW_exit, AW_ret, AW_scp, condR_true, condR_false, AThen_normal, AThen_ret, AThen_exit, ABlock_normal, ABlock_ret, ABlock_exit, AScope_normal, AScope_ret, AScope_exit, RetK_ret, RetK_normal, retAV_one, retAV_two, retAV_three, retAV_nil, RG_nil, RG_op, RG_guard, gdR_tt, gdR_ff, gdR_tf, gdR_ft, gdR_un, RG_call, callQ_clo, contK_ap, opR_some, RD_nil, RD_op0, RD_op1, opD0_some, opD1_some, RD_call, callQD_clo, RD_guard, gdD_tt, gdD_ff, gdD_tf, gdD_ft, gdD_un, psh_nil, psh_cons, Apt_nil, Apt_nilT, Apt_true, Apt_false, Dis_def, runT_val, runT_rd, runT_wr, runT_new, runT_mv, ex, put_some, put_none, ev_t, ev_c, argF_zero, argF_succ, set_g, set_n, cells_v, cells_sl, cells_agg, cells_own, cells_ptr, cells_clo, cells_eptr, cells_mp, putc, exBslice, lfill, exField, exIdxV, exIdxP, exBox, exAlloc, exLoad, exStore, exFieldA, exIdxA, exLen, exPick, exUn, exBeq, exMM, exSeq, seqGo, exExt, binV, intOp, subc, AV.solid, S0, encI, encB, e7, e8, r1, r2, numO]
    exact FzK_B true _
  | true =>
    have R := (right_iff d).mp hR
    have hn := R.n1
    have r2 : runD d (a ++ b) = match runD d a with | none => none | some p => runFrom d p b := by simp only [runD, hR, if_true]; exact runFrom_app d a b 0
    cases hra : runD d a with
    | none =>
      rw [hra] at r2
      have hacc : accD d a = false := by simp [accD, hra]
      rw [hacc] at ha
      simp [AW_seq, AW_reg, AW_regD, AW_block, AW_cond, AW_skip, AW_exit, AW_ret, AW_scp, condR_true, condR_false, AThen_normal, AThen_ret, AThen_exit, ABlock_normal, ABlock_ret, ABlock_exit, AScope_normal, AScope_ret, AScope_exit, RetK_ret, RetK_normal, retAV_one, retAV_two, retAV_three, retAV_nil, RG_nil, RG_op, RG_guard, gdR_tt, gdR_ff, gdR_tf, gdR_ft, gdR_un, RG_call, callQ_clo, contK_ap, opR_some, RD_nil, RD_op0, RD_op1, opD0_some, opD1_some, RD_call, callQD_clo, RD_guard, gdD_tt, gdD_ff, gdD_tf, gdD_ft, gdD_un, psh_nil, psh_cons, Apt_nil, Apt_nilT, Apt_true, Apt_false, Dis_def, runT_val, runT_rd, runT_wr, runT_new, runT_mv, ex, put_some, put_none, ev_t, ev_c, argF_zero, argF_succ, set_g, set_n, cells_v, cells_sl, cells_agg, cells_own, cells_ptr, cells_clo, cells_eptr, cells_mp, putc, exBslice, lfill, exField, exIdxV, exIdxP, exBox, exAlloc, exLoad, exStore, exFieldA, exIdxA, exLen, exPick, exUn, exBeq, exMM, exSeq, seqGo, exExt, binV, intOp, subc, AV.solid, S0, encI, encB, e1, e3, e7, e8, g0, hra, r2, numO]
      refine CallR.pure ha ca (closed_B _) ?_
      simp [AW_seq, AW_reg, AW_regD, AW_block, AW_cond, AW_skip, AW_exit, AW_ret, AW_scp, condR_true, condR_false, AThen_normal, AThen_ret, AThen_exit, ABlock_normal, ABlock_ret, ABlock_exit, AScope_normal, AScope_ret, AScope_exit, RetK_ret, RetK_normal, retAV_one, retAV_two, retAV_three, retAV_nil, RG_nil, RG_op, RG_guard, gdR_tt, gdR_ff, gdR_tf, gdR_ft, gdR_un, RG_call, callQ_clo, contK_ap, opR_some, RD_nil, RD_op0, RD_op1, opD0_some, opD1_some, RD_call, callQD_clo, RD_guard, gdD_tt, gdD_ff, gdD_tf, gdD_ft, gdD_un, psh_nil, psh_cons, Apt_nil, Apt_nilT, Apt_true, Apt_false, Dis_def, runT_val, runT_rd, runT_wr, runT_new, runT_mv, ex, put_some, put_none, ev_t, ev_c, argF_zero, argF_succ, set_g, set_n, cells_v, cells_sl, cells_agg, cells_own, cells_ptr, cells_clo, cells_eptr, cells_mp, putc, exBslice, lfill, exField, exIdxV, exIdxP, exBox, exAlloc, exLoad, exStore, exFieldA, exIdxA, exLen, exPick, exUn, exBeq, exMM, exSeq, seqGo, exExt, binV, intOp, subc, AV.solid, S0, encI, encB]
      exact FzK_B true _
    | some p =>
      rw [hra] at r2 e7
      have hp : p < d.next.length := by
        unfold runD at hra
        rw [if_pos hR] at hra
        exact runFrom_lt R a 0 (by omega) p hra
      have hpf : p < d.fin.length := by have := R.fin; omega
      have hacc : accD d a = d.fin[p] := by simp [accD, hra, List.getD_eq_getElem?_getD, List.getElem?_eq_getElem hpf]
      have hp0 : ¬ ((p : Int) < 0) := by omega
      rw [r2] at e8
      simp only [numO] at e7
      have e7' := e7
      simp only [encI] at e7
      simp [AW_seq, AW_reg, AW_regD, AW_block, AW_cond, AW_skip, AW_exit, AW_ret, AW_scp, condR_true, condR_false, AThen_normal, AThen_ret, AThen_exit, ABlock_normal, ABlock_ret, ABlock_exit, AScope_normal, AScope_ret, AScope_exit, RetK_ret, RetK_normal, retAV_one, retAV_two, retAV_three, retAV_nil, RG_nil, RG_op, RG_guard, gdR_tt, gdR_ff, gdR_tf, gdR_ft, gdR_un, RG_call, callQ_clo, contK_ap, opR_some, RD_nil, RD_op0, RD_op1, opD0_some, opD1_some, RD_call, callQD_clo, RD_guard, gdD_tt, gdD_ff, gdD_tf, gdD_ft, gdD_un, psh_nil, psh_cons, Apt_nil, Apt_nilT, Apt_true, Apt_false, Dis_def, runT_val, runT_rd, runT_wr, runT_new, runT_mv, ex, put_some, put_none, ev_t, ev_c, argF_zero, argF_succ, set_g, set_n, cells_v, cells_sl, cells_agg, cells_own, cells_ptr, cells_clo, cells_eptr, cells_mp, putc, exBslice, lfill, exField, exIdxV, exIdxP, exBox, exAlloc, exLoad, exStore, exFieldA, exIdxA, exLen, exPick, exUn, exBeq, exMM, exSeq, seqGo, exExt, binV, intOp, subc, AV.solid, S0, encI, encB, e1, e2, e3, e7, e8, hp0]
      refine dr_loop (d := d) (a := a) (b := b) (p := p) (y := runFrom d p b) R hb ⟨⟨?_, ?_, ?_, ?_, ?_, kept⟩, ?_, p, hp, ?_, rfl⟩ ?_ ?_
      · simp [put_some, e1]
      · simp [put_some, e2]
      · simp [put_some, e3]
      · simp [put_some, e7, encI]
      · simp [put_some, e8]
      · simp [put_some, encI]
      · simp [put_some, encI]
      · intro f' S' h6
        simp [AW_seq, AW_reg, AW_regD, AW_block, AW_cond, AW_skip, AW_exit, AW_ret, AW_scp, condR_true, condR_false, AThen_normal, AThen_ret, AThen_exit, ABlock_normal, ABlock_ret, ABlock_exit, AScope_normal, AScope_ret, AScope_exit, RetK_ret, RetK_normal, retAV_one, retAV_two, retAV_three, retAV_nil, RG_nil, RG_op, RG_guard, gdR_tt, gdR_ff, gdR_tf, gdR_ft, gdR_un, RG_call, callQ_clo, contK_ap, opR_some, RD_nil, RD_op0, RD_op1, opD0_some, opD1_some, RD_call, callQD_clo, RD_guard, gdD_tt, gdD_ff, gdD_tf, gdD_ft, gdD_un, psh_nil, psh_cons, Apt_nil, Apt_nilT, Apt_true, Apt_false, Dis_def, runT_val, runT_rd, runT_wr, runT_new, runT_mv, ex, put_some, put_none, ev_t, ev_c, argF_zero, argF_succ, set_g, set_n, cells_v, cells_sl, cells_agg, cells_own, cells_ptr, cells_clo, cells_eptr, cells_mp, putc, exBslice, lfill, exField, exIdxV, exIdxP, exBox, exAlloc, exLoad, exStore, exFieldA, exIdxA, exLen, exPick, exUn, exBeq, exMM, exSeq, seqGo, exExt, binV, intOp, subc, AV.solid, S0, encI, encB, h6]
        exact FzK_B true _
      · rintro f' S' ⟨⟨k1, k2, k3, k7, k8, k0⟩, k10, q, hq, k9, hy⟩
        rw [List.drop_length, runFrom] at hy
        rw [hy] at k8
        simp only [encDet] at k0
        rw [hacc] at ha
        have D := fun n => CallD.cd (S := ⟨n, S'.g⟩) ha ca (closed_B d.fin[p])
        simp only [encDet, encIs] at D
        simp [AW_seq, AW_reg, AW_regD, AW_block, AW_cond, AW_skip, AW_exit, AW_ret, AW_scp, condR_true, condR_false, AThen_normal, AThen_ret, AThen_exit, ABlock_normal, ABlock_ret, ABlock_exit, AScope_normal, AScope_ret, AScope_exit, RetK_ret, RetK_normal, retAV_one, retAV_two, retAV_three, retAV_nil, RG_nil, RG_op, RG_guard, gdR_tt, gdR_ff, gdR_tf, gdR_ft, gdR_un, RG_call, callQ_clo, contK_ap, opR_some, RD_nil, RD_op0, RD_op1, opD0_some, opD1_some, RD_call, callQD_clo, RD_guard, gdD_tt, gdD_ff, gdD_tf, gdD_ft, gdD_un, psh_nil, psh_cons, Apt_nil, Apt_nilT, Apt_true, Apt_false, Dis_def, runT_val, runT_rd, runT_wr, runT_new, runT_mv, ex, put_some, put_none, ev_t, ev_c, argF_zero, argF_succ, set_g, set_n, cells_v, cells_sl, cells_agg, cells_own, cells_ptr, cells_clo, cells_eptr, cells_mp, putc, exBslice, lfill, exField, exIdxV, exIdxP, exBox, exAlloc, exLoad, exStore, exFieldA, exIdxA, exLen, exPick, exUn, exBeq, exMM, exSeq, seqGo, exExt, binV, intOp, subc, AV.solid, S0, encI, encB, c_dr_end, k1, k2, k3, k7, k8, k9, k0, numO, encIs]
        refine ⟨_, ⟨_, D _⟩, ?_⟩
        simp [AW_seq, AW_reg, AW_regD, AW_block, AW_cond, AW_skip, AW_exit, AW_ret, AW_scp, condR_true, condR_false, AThen_normal, AThen_ret, AThen_exit, ABlock_normal, ABlock_ret, ABlock_exit, AScope_normal, AScope_ret, AScope_exit, RetK_ret, RetK_normal, retAV_one, retAV_two, retAV_three, retAV_nil, RG_nil, RG_op, RG_guard, gdR_tt, gdR_ff, gdR_tf, gdR_ft, gdR_un, RG_call, callQ_clo, contK_ap, opR_some, RD_nil, RD_op0, RD_op1, opD0_some, opD1_some, RD_call, callQD_clo, RD_guard, gdD_tt, gdD_ff, gdD_tf, gdD_ft, gdD_un, psh_nil, psh_cons, Apt_nil, Apt_nilT, Apt_true, Apt_false, Dis_def, runT_val, runT_rd, runT_wr, runT_new, runT_mv, ex, put_some, put_none, ev_t, ev_c, argF_zero, argF_succ, set_g, set_n, cells_v, cells_sl, cells_agg, cells_own, cells_ptr, cells_clo, cells_eptr, cells_mp, putc, exBslice, lfill, exField, exIdxV, exIdxP, exBox, exAlloc, exLoad, exStore, exFieldA, exIdxA, exLen, exPick, exUn, exBeq, exMM, exSeq, seqGo, exExt, binV, intOp, subc, AV.solid, S0, encI, encB, k1, k2, k3, k7, k8, k9, k0, encBs, encIss, hpf, hp]
        exact FzK_B true _
theorem CallD.lk {P : Program} {f : FuncId} {args args' : List AV} {r : AV} {S : St} {F : List Nat} (h : PureC P f args' r) (hz : FzL (only F S.g) args args') (hr : Plain r) : CallD P f args S F r := ⟨args', h, hz.1, hz.2, .inl hr⟩
theorem dr_y {P : Program} {fn fr fa : FuncId} {d : Det} {a b : List Int} (ha1 : a.length ≤ 100) (hb1 : b.length ≤ 100) (hr : PureC P fr [encDet d] (encB (rightD d))) (ha : PureC P fa [encDet d, encIs a] (encB (accD d a)))
    (hn : PureC P fn [encDet d, encIs (a ++ b)] (encI (numO (runD d (a ++ b))))) {x : Int} {f : AF} {S : St}
    (e1 : f 1 = encIs a) (e2 : f 2 = encIs b) (e3 : f 3 = .ptr 0 0 0) (e7 : f 7 = encI (numO (runD d a))) (g0 : S.g 0 = some (.arr 3 [encDet d])) (h0 : 0 < S.n) : AW P (c_dr_y fn fr fa) (RetK [6] (FzK (encB true))) f S := by
  have kept := g0
  simp only [encDet] at g0
  have hca : ∀ y ∈ a.map encI, y.cells.length = 1 := cells_I a
  have hcb : ∀ y ∈ b.map encI, y.cells.length = 1 := cells_I b
  have cd := closed_Det d
  have hz : ∀ (G : Nat → Option Blk) (v : AV), Fz G v (encIs (a ++ b)) → FzL G [encDet d, v] [encDet d, encIs (a ++ b)] := fun G v hv => .cons (.closed _ cd) (.cons hv .nil)
  have hfin : ∀ (f' : AF) (S' : St), f' 1 = encIs a → f' 2 = encIs b → f' 3 = .ptr 0 0 0 → f' 7 = encI (numO (runD d a)) → f' 8 = encI (numO (runD d (a ++ b))) → S'.g 0 = some (.arr 3 [encDet d]) → AW P (c_dr_rest fr fa) (RetK [6] (FzK (encB true))) f' S' :=
    fun f' S' k1 k2 k3 k7 k8 k0 => dr_rest (by omega) hr ha ⟨k1, k2, k3, k7, k8, k0⟩
  by_cases ea : a = []
  · by_cases eb : b = []
    · have hv : ∀ G, Fz G (.sl true []) (encIs (a ++ b)) := fun G => by subst ea; subst eb; exact .loose true [] (.sl _ _ (by simp))
      have D := fun n g => CallD.lk (F := []) (S := ⟨n, g⟩) hn (hz _ _ (hv _)) (plain_I _)
      have ea' : a.map encI = [] := by simp [ea]
      have eb' : b.map encI = [] := by simp [eb]
      simp only [encDet] at D
      simp [AW_seq, AW_reg, AW_regD, AW_block, AW_cond, AW_skip, AW_exit, AW_ret, AW_scp, condR_true, condR_false, AThen_normal, AThen_ret, AThen_exit, ABlock_normal, ABlock_ret, ABlock_exit, AScope_normal, AScope_ret, AScope_exit, RetK_ret, RetK_normal, retAV_one, retAV_two, retAV_three, retAV_nil, RG_nil, RG_op, RG_guard, gdR_tt, gdR_ff, gdR_tf, gdR_ft, gdR_un, RG_call, callQ_clo, contK_ap, opR_some, RD_nil, RD_op0, RD_op1, opD0_some, opD1_some, RD_call, callQD_clo, RD_guard, gdD_tt, gdD_ff, gdD_tf, gdD_ft, gdD_un, psh_nil, psh_cons, Apt_nil, Apt_nilT, Apt_true, Apt_false, Dis_def, runT_val, runT_rd, runT_wr, runT_new, runT_mv, ex, put_some, put_none, ev_t, ev_c, argF_zero, argF_succ, set_g, set_n, cells_v, cells_sl, cells_agg, cells_own, cells_ptr, cells_clo, cells_eptr, cells_mp, putc, exBslice, lfill, exField, exIdxV, exIdxP, exBox, exAlloc, exLoad, exStore, exFieldA, exIdxA, exLen, exPick, exUn, exBeq, exMM, exSeq, seqGo, exExt, binV, intOp, subc, AV.solid, S0, encI, encB, c_dr_y, e1, e2, e3, g0, encIs, ea', eb', appT_nil, appOk]
      refine ⟨_, ⟨[], D _ _⟩, ?_⟩
      simp [AW_seq, AW_reg, AW_regD, AW_block, AW_cond, AW_skip, AW_exit, AW_ret, AW_scp, condR_true, condR_false, AThen_normal, AThen_ret, AThen_exit, ABlock_normal, ABlock_ret, ABlock_exit, AScope_normal, AScope_ret, AScope_exit, RetK_ret, RetK_normal, retAV_one, retAV_two, retAV_three, retAV_nil, RG_nil, RG_op, RG_guard, gdR_tt, gdR_ff, gdR_tf, gdR_ft, gdR_un, RG_call, callQ_clo, contK_ap, opR_some, RD_nil, RD_op0, RD_op1, opD0_some, opD1_some, RD_call, callQD_clo, RD_guard, gdD_tt, gdD_ff, gdD_tf, gdD_ft, gdD_un, psh_nil, psh_cons, Apt_nil, Apt_nilT, Apt_true, Apt_false, Dis_def, runT_val, runT_rd, runT_wr, runT_new, runT_mv, ex, put_some, put_none, ev_t, ev_c, argF_zero, argF_succ, set_g, set_n, cells_v, cells_sl, cells_agg, cells_own, cells_ptr, cells_clo, cells_eptr, cells_mp, putc, exBslice, lfill, exField, exIdxV, exIdxP, exBox, exAlloc, exLoad, exStore, exFieldA, exIdxA, exLen, exPick, exUn, exBeq, exMM, exSeq, seqGo, exExt, binV, intOp, subc, AV.solid, S0, encI, encB]
      refine hfin _ _ ?_ ?_ ?_ ?_ ?_ kept <;> simp [put_some, e1, e2, e3, e7, encI]
    · have hbl : 0 < (b.map encI).length := by simpa using List.length_pos_iff.mpr eb
      have ea' : a.map encI = [] := by simp [ea]
      simp [AW_seq, AW_reg, AW_regD, AW_block, AW_cond, AW_skip, AW_exit, AW_ret, AW_scp, condR_true, condR_false, AThen_normal, AThen_ret, AThen_exit, ABlock_normal, ABlock_ret, ABlock_exit, AScope_normal, AScope_ret, AScope_exit, RetK_ret, RetK_normal, retAV_one, retAV_two, retAV_three, retAV_nil, RG_nil, RG_op, RG_guard, gdR_tt, gdR_ff, gdR_tf, gdR_ft, gdR_un, RG_call, callQ_clo, contK_ap, opR_some, RD_nil, RD_op0, RD_op1, opD0_some, opD1_some, RD_call, callQD_clo, RD_guard, gdD_tt, gdD_ff, gdD_tf, gdD_ft, gdD_un, psh_nil, psh_cons, Apt_nil, Apt_nilT, Apt_true, Apt_false, Dis_def, runT_val, runT_rd, runT_wr, runT_new, runT_mv, ex, put_some, put_none, ev_t, ev_c, argF_zero, argF_succ, set_g, set_n, cells_v, cells_sl, cells_agg, cells_own, cells_ptr, cells_clo, cells_eptr, cells_mp, putc, exBslice, lfill, exField, exIdxV, exIdxP, exBox, exAlloc, exLoad, exStore, exFieldA, exIdxA, exLen, exPick, exUn, exBeq, exMM, exSeq, seqGo, exExt, binV, intOp, subc, AV.solid, S0, encI, encB, c_dr_y, e1, e2, e3, g0, encIs, ea', appT_nil, appOk]
      rw [appT_sl hcb hbl (by unfold appOk; simp; omega)]
      simp [AW_seq, AW_reg, AW_regD, AW_block, AW_cond, AW_skip, AW_exit, AW_ret, AW_scp, condR_true, condR_false, AThen_normal, AThen_ret, AThen_exit, ABlock_normal, ABlock_ret, ABlock_exit, AScope_normal, AScope_ret, AScope_exit, RetK_ret, RetK_normal, retAV_one, retAV_two, retAV_three, retAV_nil, RG_nil, RG_op, RG_guard, gdR_tt, gdR_ff, gdR_tf, gdR_ft, gdR_un, RG_call, callQ_clo, contK_ap, opR_some, RD_nil, RD_op0, RD_op1, opD0_some, opD1_some, RD_call, callQD_clo, RD_guard, gdD_tt, gdD_ff, gdD_tf, gdD_ft, gdD_un, psh_nil, psh_cons, Apt_nil, Apt_nilT, Apt_true, Apt_false, Dis_def, runT_val, runT_rd, runT_wr, runT_new, runT_mv, ex, put_some, put_none, ev_t, ev_c, argF_zero, argF_succ, set_g, set_n, cells_v, cells_sl, cells_agg, cells_own, cells_ptr, cells_clo, cells_eptr, cells_mp, putc, exBslice, lfill, exField, exIdxV, exIdxP, exBox, exAlloc, exLoad, exStore, exFieldA, exIdxA, exLen, exPick, exUn, exBeq, exMM, exSeq, seqGo, exExt, binV, intOp, subc, AV.solid, S0, encI, encB]
      refine ⟨encI (numO (runD d (a ++ b))), ⟨[S.n + 5], CallD.lk (args := [encDet d, .own (S.n + 5) 0 b.length]) (F := [S.n + 5]) hn (hz _ _ ?_) (plain_I _)⟩, ?_⟩
      · have hv : Vec (only [S.n + 5] (St.set ⟨S.n + 8, S.g⟩ (S.n + 5) (some (.arr 1 (b.map encI)))).g) (.own (S.n + 5) 0 b.length) 1 (b.map encI) := Vec.mk' (by simp [only, set_g]) (by simp)
        have := hv.fz (enc := encI) closed_I
        subst ea
        exact this
      · simp [AW_seq, AW_reg, AW_regD, AW_block, AW_cond, AW_skip, AW_exit, AW_ret, AW_scp, condR_true, condR_false, AThen_normal, AThen_ret, AThen_exit, ABlock_normal, ABlock_ret, ABlock_exit, AScope_normal, AScope_ret, AScope_exit, RetK_ret, RetK_normal, retAV_one, retAV_two, retAV_three, retAV_nil, RG_nil, RG_op, RG_guard, gdR_tt, gdR_ff, gdR_tf, gdR_ft, gdR_un, RG_call, callQ_clo, contK_ap, opR_some, RD_nil, RD_op0, RD_op1, opD0_some, opD1_some, RD_call, callQD_clo, RD_guard, gdD_tt, gdD_ff, gdD_tf, gdD_ft, gdD_un, psh_nil, psh_cons, Apt_nil, Apt_nilT, Apt_true, Apt_false, Dis_def, runT_val, runT_rd, runT_wr, runT_new, runT_mv, ex, put_some, put_none, ev_t, ev_c, argF_zero, argF_succ, set_g, set_n, cells_v, cells_sl, cells_agg, cells_own, cells_ptr, cells_clo, cells_eptr, cells_mp, putc, exBslice, lfill, exField, exIdxV, exIdxP, exBox, exAlloc, exLoad, exStore, exFieldA, exIdxA, exLen, exPick, exUn, exBeq, exMM, exSeq, seqGo, exExt, binV, intOp, subc, AV.solid, S0, encI, encB]
        refine hfin _ _ ?_ ?_ ?_ ?_ ?_ ?_ <;> try simp [put_some, e1, e2, e3, e7, encI, encIs]
        have : (0 : Nat) ≠ S.n + 5 := by omega
        simp [set_g, this, kept]
  · have hal : 0 < (a.map encI).length := by simpa using List.length_pos_iff.mpr ea
    simp [AW_seq, AW_reg, AW_regD, AW_block, AW_cond, AW_skip, AW_exit, AW_ret, AW_scp, condR_true, condR_false, AThen_normal, AThen_ret, AThen_exit, ABlock_normal, ABlock_ret, ABlock_exit, AScope_normal, AScope_ret, AScope_exit, RetK_ret, RetK_normal, retAV_one, retAV_two, retAV_three, retAV_nil, RG_nil, RG_op, RG_guard, gdR_tt, gdR_ff, gdR_tf, gdR_ft, gdR_un, RG_call, callQ_clo, contK_ap, opR_some, RD_nil, RD_op0, RD_op1, opD0_some, opD1_some, RD_call, callQD_clo, RD_guard, gdD_tt, gdD_ff, gdD_tf, gdD_ft, gdD_un, psh_nil, psh_cons, Apt_nil, Apt_nilT, Apt_true, Apt_false, Dis_def, runT_val, runT_rd, runT_wr, runT_new, runT_mv, ex, put_some, put_none, ev_t, ev_c, argF_zero, argF_succ, set_g, set_n, cells_v, cells_sl, cells_agg, cells_own, cells_ptr, cells_clo, cells_eptr, cells_mp, putc, exBslice, lfill, exField, exIdxV, exIdxP, exBox, exAlloc, exLoad, exStore, exFieldA, exIdxA, exLen, exPick, exUn, exBeq, exMM, exSeq, seqGo, exExt, binV, intOp, subc, AV.solid, S0, encI, encB, c_dr_y, e1, e2, e3, g0, encIs]
    rw [appT_sl hca hal (by unfold appOk; simp; omega)]
    simp [AW_seq, AW_reg, AW_regD, AW_block, AW_cond, AW_skip, AW_exit, AW_ret, AW_scp, condR_true, condR_false, AThen_normal, AThen_ret, AThen_exit, ABlock_normal, ABlock_ret, ABlock_exit, AScope_normal, AScope_ret, AScope_exit, RetK_ret, RetK_normal, retAV_one, retAV_two, retAV_three, retAV_nil, RG_nil, RG_op, RG_guard, gdR_tt, gdR_ff, gdR_tf, gdR_ft, gdR_un, RG_call, callQ_clo, contK_ap, opR_some, RD_nil, RD_op0, RD_op1, opD0_some, opD1_some, RD_call, callQD_clo, RD_guard, gdD_tt, gdD_ff, gdD_tf, gdD_ft, gdD_un, psh_nil, psh_cons, Apt_nil, Apt_nilT, Apt_true, Apt_false, Dis_def, runT_val, runT_rd, runT_wr, runT_new, runT_mv, ex, put_some, put_none, ev_t, ev_c, argF_zero, argF_succ, set_g, set_n, cells_v, cells_sl, cells_agg, cells_own, cells_ptr, cells_clo, cells_eptr, cells_mp, putc, exBslice, lfill, exField, exIdxV, exIdxP, exBox, exAlloc, exLoad, exStore, exFieldA, exIdxA, exLen, exPick, exUn, exBeq, exMM, exSeq, seqGo, exExt, binV, intOp, subc, AV.solid, S0, encI, encB, e2, encIs]
    rw [appT_own (xs := a.map encI) (by simp [set_g]) (by simp) hcb (by unfold appOk; simp; omega)]
    simp [AW_seq, AW_reg, AW_regD, AW_block, AW_cond, AW_skip, AW_exit, AW_ret, AW_scp, condR_true, condR_false, AThen_normal, AThen_ret, AThen_exit, ABlock_normal, ABlock_ret, ABlock_exit, AScope_normal, AScope_ret, AScope_exit, RetK_ret, RetK_normal, retAV_one, retAV_two, retAV_three, retAV_nil, RG_nil, RG_op, RG_guard, gdR_tt, gdR_ff, gdR_tf, gdR_ft, gdR_un, RG_call, callQ_clo, contK_ap, opR_some, RD_nil, RD_op0, RD_op1, opD0_some, opD1_some, RD_call, callQD_clo, RD_guard, gdD_tt, gdD_ff, gdD_tf, gdD_ft, gdD_un, psh_nil, psh_cons, Apt_nil, Apt_nilT, Apt_true, Apt_false, Dis_def, runT_val, runT_rd, runT_wr, runT_new, runT_mv, ex, put_some, put_none, ev_t, ev_c, argF_zero, argF_succ, set_g, set_n, cells_v, cells_sl, cells_agg, cells_own, cells_ptr, cells_clo, cells_eptr, cells_mp, putc, exBslice, lfill, exField, exIdxV, exIdxP, exBox, exAlloc, exLoad, exStore, exFieldA, exIdxA, exLen, exPick, exUn, exBeq, exMM, exSeq, seqGo, exExt, binV, intOp, subc, AV.solid, S0, encI, encB, e3, g0]
    refine ⟨encI (numO (runD d (a ++ b))), ⟨[S.n + 5], CallD.lk (args := [encDet d, .own (S.n + 5) 0 (a.length + b.length)]) (F := [S.n + 5]) hn (hz _ _ ?_) (plain_I _)⟩, ?_⟩
    · have hv : Vec (only [S.n + 5] (St.set (St.set (St.set ⟨S.n + 8, S.g⟩ (S.n + 3) (some (.arr 1 (a.map encI)))) (S.n + 3) none) (S.n + 5) (some (.arr 1 (a.map encI ++ b.map encI)))).g) (.own (S.n + 5) 0 (a.length + b.length)) 1 ((a ++ b).map encI) := Vec.mk' (by simp [only, set_g]) (by simp)
      exact hv.fz (enc := encI) closed_I
    · simp [AW_seq, AW_reg, AW_regD, AW_block, AW_cond, AW_skip, AW_exit, AW_ret, AW_scp, condR_true, condR_false, AThen_normal, AThen_ret, AThen_exit, ABlock_normal, ABlock_ret, ABlock_exit, AScope_normal, AScope_ret, AScope_exit, RetK_ret, RetK_normal, retAV_one, retAV_two, retAV_three, retAV_nil, RG_nil, RG_op, RG_guard, gdR_tt, gdR_ff, gdR_tf, gdR_ft, gdR_un, RG_call, callQ_clo, contK_ap, opR_some, RD_nil, RD_op0, RD_op1, opD0_some, opD1_some, RD_call, callQD_clo, RD_guard, gdD_tt, gdD_ff, gdD_tf, gdD_ft, gdD_un, psh_nil, psh_cons, Apt_nil, Apt_nilT, Apt_true, Apt_false, Dis_def, runT_val, runT_rd, runT_wr, runT_new, runT_mv, ex, put_some, put_none, ev_t, ev_c, argF_zero, argF_succ, set_g, set_n, cells_v, cells_sl, cells_agg, cells_own, cells_ptr, cells_clo, cells_eptr, cells_mp, putc, exBslice, lfill, exField, exIdxV, exIdxP, exBox, exAlloc, exLoad, exStore, exFieldA, exIdxA, exLen, exPick, exUn, exBeq, exMM, exSeq, seqGo, exExt, binV, intOp, subc, AV.solid, S0, encI, encB]
      refine hfin _ _ ?_ ?_ ?_ ?_ ?_ ?_ <;> try simp [put_some, e1, e2, e3, e7, encI, encIs]
      have q5 : (0 : Nat) ≠ S.n + 5 := by omega
      have q3 : (0 : Nat) ≠ S.n + 3 := by omega
      simp [set_g, q5, q3, kept]
theorem DetRuns_body {P : Program} {fl fg fn fr fa : FuncId} (d : Det) (a b : List Int) (hl : PureC P fl [] (encB true)) (gd : Bool) (hg : PureC P fg [encDet d, encI 2000] (encB gd)) (hr : PureC P fr [encDet d] (encB (rightD d)))
    (ha : Len a → PureC P fa [encDet d, encIs a] (encB (accD d a))) (hn : ∀ l, Len l → PureC P fn [encDet d, encIs l] (encI (numO (runD d l)))) :
    AW P (c_caesuralaw15_DetRuns fl fg fn fr fa) (RetK [6] (FzK (encB true))) (argF [encDet d, encIs a, encIs b]) S0 := by
  have cd := closed_Det d
  simp [AW_seq, AW_reg, AW_regD, AW_block, AW_cond, AW_skip, AW_exit, AW_ret, AW_scp, condR_true, condR_false, AThen_normal, AThen_ret, AThen_exit, ABlock_normal, ABlock_ret, ABlock_exit, AScope_normal, AScope_ret, AScope_exit, RetK_ret, RetK_normal, retAV_one, retAV_two, retAV_three, retAV_nil, RG_nil, RG_op, RG_guard, gdR_tt, gdR_ff, gdR_tf, gdR_ft, gdR_un, RG_call, callQ_clo, contK_ap, opR_some, RD_nil, RD_op0, RD_op1, opD0_some, opD1_some, RD_call, callQD_clo, RD_guard, gdD_tt, gdD_ff, gdD_tf, gdD_ft, gdD_un, psh_nil, psh_cons, Apt_nil, Apt_nilT, Apt_true, Apt_false, Dis_def, runT_val, runT_rd, runT_wr, runT_new, runT_mv, ex, put_some, put_none, ev_t, ev_c, argF_zero, argF_succ, set_g, set_n, cells_v, cells_sl, cells_agg, cells_own, cells_ptr, cells_clo, cells_eptr, cells_mp, putc, exBslice, lfill, exField, exIdxV, exIdxP, exBox, exAlloc, exLoad, exStore, exFieldA, exIdxA, exLen, exPick, exUn, exBeq, exMM, exSeq, seqGo, exExt, binV, intOp, subc, AV.solid, S0, encI, encB, c_caesuralaw15_DetRuns, encDet]
  refine CallR.pure hl cl_nil (closed_B _) ?_
  simp [AW_seq, AW_reg, AW_regD, AW_block, AW_cond, AW_skip, AW_exit, AW_ret, AW_scp, condR_true, condR_false, AThen_normal, AThen_ret, AThen_exit, ABlock_normal, ABlock_ret, ABlock_exit, AScope_normal, AScope_ret, AScope_exit, RetK_ret, RetK_normal, retAV_one, retAV_two, retAV_three, retAV_nil, RG_nil, RG_op, RG_guard, gdR_tt, gdR_ff, gdR_tf, gdR_ft, gdR_un, RG_call, callQ_clo, contK_ap, opR_some, RD_nil, RD_op0, RD_op1, opD0_some, opD1_some, RD_call, callQD_clo, RD_guard, gdD_tt, gdD_ff, gdD_tf, gdD_ft, gdD_un, psh_nil, psh_cons, Apt_nil, Apt_nilT, Apt_true, Apt_false, Dis_def, runT_val, runT_rd, runT_wr, runT_new, runT_mv, ex, put_some, put_none, ev_t, ev_c, argF_zero, argF_succ, set_g, set_n, cells_v, cells_sl, cells_agg, cells_own, cells_ptr, cells_clo, cells_eptr, cells_mp, putc, exBslice, lfill, exField, exIdxV, exIdxP, exBox, exAlloc, exLoad, exStore, exFieldA, exIdxA, exLen, exPick, exUn, exBeq, exMM, exSeq, seqGo, exExt, binV, intOp, subc, AV.solid, S0, encI, encB]
  refine CallR.pure hg (cl_cons cd (cl_cons (closed_I _) cl_nil)) (closed_B _) ?_
  cases gd with
  | true =>
    simp [AW_seq, AW_reg, AW_regD, AW_block, AW_cond, AW_skip, AW_exit, AW_ret, AW_scp, condR_true, condR_false, AThen_normal, AThen_ret, AThen_exit, ABlock_normal, ABlock_ret, ABlock_exit, AScope_normal, AScope_ret, AScope_exit, RetK_ret, RetK_normal, retAV_one, retAV_two, retAV_three, retAV_nil, RG_nil, RG_op, RG_guard, gdR_tt, gdR_ff, gdR_tf, gdR_ft, gdR_un, RG_call, callQ_clo, contK_ap, opR_some, RD_nil, RD_op0, RD_op1, opD0_some, opD1_some, RD_call, callQD_clo, RD_guard, gdD_tt, gdD_ff, gdD_tf, gdD_ft, gdD_un, psh_nil, psh_cons, Apt_nil, Apt_nilT, Apt_true, Apt_false, Dis_def, runT_val, runT_rd, runT_wr, runT_new, runT_mv, ex, put_some, put_none, ev_t, ev_c, argF_zero, argF_succ, set_g, set_n, cells_v, cells_sl, cells_agg, cells_own, cells_ptr, cells_clo, cells_eptr, cells_mp, putc, exBslice, lfill, exField, exIdxV, exIdxP, exBox, exAlloc, exLoad, exStore, exFieldA, exIdxA, exLen, exPick, exUn, exBeq, exMM, exSeq, seqGo, exExt, binV, intOp, subc, AV.solid, S0, encI, encB]
    exact FzK_B true _
  | false =>
    by_cases h1 : 100 < a.length
    · have h1' : (100 : Int) < a.length := by omega
      simp [AW_seq, AW_reg, AW_regD, AW_block, AW_cond, AW_skip, AW_exit, AW_ret, AW_scp, condR_true, condR_false, AThen_normal, AThen_ret, AThen_exit, ABlock_normal, ABlock_ret, ABlock_exit, AScope_normal, AScope_ret, AScope_exit, RetK_ret, RetK_normal, retAV_one, retAV_two, retAV_three, retAV_nil, RG_nil, RG_op, RG_guard, gdR_tt, gdR_ff, gdR_tf, gdR_ft, gdR_un, RG_call, callQ_clo, contK_ap, opR_some, RD_nil, RD_op0, RD_op1, opD0_some, opD1_some, RD_call, callQD_clo, RD_guard, gdD_tt, gdD_ff, gdD_tf, gdD_ft, gdD_un, psh_nil, psh_cons, Apt_nil, Apt_nilT, Apt_true, Apt_false, Dis_def, runT_val, runT_rd, runT_wr, runT_new, runT_mv, ex, put_some, put_none, ev_t, ev_c, argF_zero, argF_succ, set_g, set_n, cells_v, cells_sl, cells_agg, cells_own, cells_ptr, cells_clo, cells_eptr, cells_mp, putc, exBslice, lfill, exField, exIdxV, exIdxP, exBox, exAlloc, exLoad, exStore, exFieldA, exIdxA, exLen, exPick, exUn, exBeq, exMM, exSeq, seqGo, exExt, binV, intOp, subc, AV.solid, S0, encI, encB, encIs, h1, h1']
      exact FzK_B true _
    · have h1' : ¬ (100 : Int) < a.length := by omega
      by_cases h2 : 100 < b.length
      · have h2' : (100 : Int) < b.length := by omega
        simp [AW_seq, AW_reg, AW_regD, AW_block, AW_cond, AW_skip, AW_exit, AW_ret, AW_scp, condR_true, condR_false, AThen_normal, AThen_ret, AThen_exit, ABlock_normal, ABlock_ret, ABlock_exit, AScope_normal, AScope_ret, AScope_exit, RetK_ret, RetK_normal, retAV_one, retAV_two, retAV_three, retAV_nil, RG_nil, RG_op, RG_guard, gdR_tt, gdR_ff, gdR_tf, gdR_ft, gdR_un, RG_call, callQ_clo, contK_ap, opR_some, RD_nil, RD_op0, RD_op1, opD0_some, opD1_some, RD_call, callQD_clo, RD_guard, gdD_tt, gdD_ff, gdD_tf, gdD_ft, gdD_un, psh_nil, psh_cons, Apt_nil, Apt_nilT, Apt_true, Apt_false, Dis_def, runT_val, runT_rd, runT_wr, runT_new, runT_mv, ex, put_some, put_none, ev_t, ev_c, argF_zero, argF_succ, set_g, set_n, cells_v, cells_sl, cells_agg, cells_own, cells_ptr, cells_clo, cells_eptr, cells_mp, putc, exBslice, lfill, exField, exIdxV, exIdxP, exBox, exAlloc, exLoad, exStore, exFieldA, exIdxA, exLen, exPick, exUn, exBeq, exMM, exSeq, seqGo, exExt, binV, intOp, subc, AV.solid, S0, encI, encB, encIs, h1, h1', h2, h2']
        exact FzK_B true _
      · have h2' : ¬ (100 : Int) < b.length := by omega
        have la : Len a := by unfold Len; omega
        have lab : Len (a ++ b) := by unfold Len; simp; omega
        simp [AW_seq, AW_reg, AW_regD, AW_block, AW_cond, AW_skip, AW_exit, AW_ret, AW_scp, condR_true, condR_false, AThen_normal, AThen_ret, AThen_exit, ABlock_normal, ABlock_ret, ABlock_exit, AScope_normal, AScope_ret, AScope_exit, RetK_ret, RetK_normal, retAV_one, retAV_two, retAV_three, retAV_nil, RG_nil, RG_op, RG_guard, gdR_tt, gdR_ff, gdR_tf, gdR_ft, gdR_un, RG_call, callQ_clo, contK_ap, opR_some, RD_nil, RD_op0, RD_op1, opD0_some, opD1_some, RD_call, callQD_clo, RD_guard, gdD_tt, gdD_ff, gdD_tf, gdD_ft, gdD_un, psh_nil, psh_cons, Apt_nil, Apt_nilT, Apt_true, Apt_false, Dis_def, runT_val, runT_rd, runT_wr, runT_new, runT_mv, ex, put_some, put_none, ev_t, ev_c, argF_zero, argF_succ, set_g, set_n, cells_v, cells_sl, cells_agg, cells_own, cells_ptr, cells_clo, cells_eptr, cells_mp, putc, exBslice, lfill, exField, exIdxV, exIdxP, exBox, exAlloc, exLoad, exStore, exFieldA, exIdxA, exLen, exPick, exUn, exBeq, exMM, exSeq, seqGo, exExt, binV, intOp, subc, AV.solid, S0, encI, encB, encIs, h1, h1', h2, h2', encDet]
        refine CallR.pure (hn a la) (cl_cons cd (cl_cons (closed_Is a) cl_nil)) (closed_I _) ?_
        simp [AW_seq, AW_reg, AW_regD, AW_block, AW_cond, AW_skip, AW_exit, AW_ret, AW_scp, condR_true, condR_false, AThen_normal, AThen_ret, AThen_exit, ABlock_normal, ABlock_ret, ABlock_exit, AScope_normal, AScope_ret, AScope_exit, RetK_ret, RetK_normal, retAV_one, retAV_two, retAV_three, retAV_nil, RG_nil, RG_op, RG_guard, gdR_tt, gdR_ff, gdR_tf, gdR_ft, gdR_un, RG_call, callQ_clo, contK_ap, opR_some, RD_nil, RD_op0, RD_op1, opD0_some, opD1_some, RD_call, callQD_clo, RD_guard, gdD_tt, gdD_ff, gdD_tf, gdD_ft, gdD_un, psh_nil, psh_cons, Apt_nil, Apt_nilT, Apt_true, Apt_false, Dis_def, runT_val, runT_rd, runT_wr, runT_new, runT_mv, ex, put_some, put_none, ev_t, ev_c, argF_zero, argF_succ, set_g, set_n, cells_v, cells_sl, cells_agg, cells_own, cells_ptr, cells_clo, cells_eptr, cells_mp, putc, exBslice, lfill, exField, exIdxV, exIdxP, exBox, exAlloc, exLoad, exStore, exFieldA, exIdxA, exLen, exPick, exUn, exBeq, exMM, exSeq, seqGo, exExt, binV, intOp, subc, AV.solid, S0, encI, encB]
        refine dr_y (x := 0) (a := a) (b := b) (by omega) (by omega) hr (ha la) (hn _ lab) ?_ ?_ ?_ ?_ ?_ ?_
        · simp [put_some, argF_zero, argF_succ, encIs]
        · simp [put_some, argF_zero, argF_succ, encIs]
        · simp [put_some, argF_zero, argF_succ]
        · simp [put_some, argF_zero, argF_succ, encI]
        · simp [set_g, encDet, encI]
        · simp
end Go.Rf

