import Derived.Test.YtpllebbaahanjaaRfR10
/- Own work: VerdictOne, gone through. -/
set_option linter.unusedVariables false
set_option linter.unusedSimpArgs false
namespace Go.Rf
open Go.RowKit

def c_vo_in (f_verdict_Matches : FuncId) : AC :=
  (.block 2 (.loop (.seq (.seq (.reg none [
        ⟨(some 49), .mv (.t 9), none, none⟩,
        ⟨(some 50), .fieldA 1 (.t 2), none, none⟩,
        ⟨(some 51), .load none (.t 50), none, none⟩,
        ⟨(some 52), .len (.t 51), none, none⟩,
        ⟨(some 53), .bin .lss (.t 49) (.t 52), none, none⟩])
       (.cond (.t 53) .skip (.exit 2)))
       (.seq (.block 3 (.seq (.reg none [
         ⟨(some 56), .fieldA 1 (.t 2), none, none⟩,
         ⟨(some 57), .load none (.t 56), none, none⟩,
         ⟨(some 58), .mv (.t 9), none, none⟩,
         ⟨(some 59), .idxA 11 (.t 57) (.t 58), none, none⟩,
         ⟨(some 60), .load (some 11) (.t 59), none, none⟩,
         ⟨(some 61), .mv (.t 1), none, none⟩,
         ⟨(some 62), .mv (.t 7), none, none⟩,
         ⟨(some 63), .mv (.c .junk), none, (some ((.c (.clo f_verdict_Matches [] [])), [(.t 60), (.t 61), (.t 62)]))⟩,
         ⟨(some 10), .mv (.t 63), none, none⟩])
        (.seq (.reg none [
         ⟨(some 64), .mv (.t 10), none, none⟩,
         ⟨(some 65), .mv (.t 64), none, none⟩,
         ⟨(some 66), .mv (.t 8), (some (65, true)), none⟩,
         ⟨(some 67), .bin .lss (.t 66) (.c (.v (.int .i64 0))), (some (65, true)), none⟩,
         ⟨(some 68), .mv (.t 67), (some (65, true)), none⟩,
         ⟨(some 69), .mv (.t 9), (some (68, false)), none⟩,
         ⟨(some 70), .mv (.t 8), (some (68, false)), none⟩,
         ⟨(some 71), .bin .lss (.t 69) (.t 70), (some (68, false)), none⟩,
         ⟨(some 72), .pick (.t 68) (.c (.v (.bool true))) (.t 71), (some (65, true)), none⟩,
         ⟨(some 73), .pick (.t 65) (.t 72) (.c (.v (.bool false))), none, none⟩,
         ⟨(some 74), .mv (.t 73), none, none⟩,
         ⟨(some 75), .mv (.t 9), (some (74, false)), none⟩,
         ⟨(some 76), .mv (.t 8), (some (74, false)), none⟩,
         ⟨(some 77), .bin .eql (.t 75) (.t 76), (some (74, false)), none⟩,
         ⟨(some 78), .mv (.t 77), (some (74, false)), none⟩,
         ⟨(some 79), .mv (.t 10), (some (78, true)), none⟩,
         ⟨(some 80), .un .not (.t 79), (some (78, true)), none⟩,
         ⟨(some 81), .pick (.t 78) (.t 80) (.c (.v (.bool false))), (some (74, false)), none⟩,
         ⟨(some 82), .pick (.t 74) (.c (.v (.bool true))) (.t 81), none, none⟩])
        (.cond (.t 82) (.seq (.reg none [
          ⟨(some 4), .mv (.c (.v (.bool false))), none, none⟩])
         .ret) .skip))))
       (.reg none [
        ⟨(some 54), .mv (.t 9), none, none⟩,
        ⟨(some 55), .bin .add (.t 54) (.c (.v (.int .i64 1))), none, none⟩,
        ⟨(some 9), .mv (.t 55), none, none⟩])))))
def c_vo_out (f_verdict_Decides f_verdict_Matches f_verdict_Cut : FuncId) : AC :=
  (.block 0 (.loop (.seq (.seq (.reg none [
     ⟨(some 30), .mv (.t 7), none, none⟩,
     ⟨(some 31), .mv (.t 1), none, none⟩,
     ⟨(some 32), .len (.t 31), none, none⟩,
     ⟨(some 33), .bin .lss (.t 30) (.t 32), none, none⟩])
    (.cond (.t 33) .skip (.exit 0)))
    (.seq (.block 1 (.seq (.reg none [
      ⟨(some 36), .load (some 4) (.t 2), none, none⟩,
      ⟨(some 37), .mv (.t 1), none, none⟩,
      ⟨(some 38), .mv (.t 7), none, none⟩,
      ⟨(some 39), .mv (.c .junk), none, (some ((.c (.clo f_verdict_Decides [] [])), [(.t 36), (.t 37), (.t 38)]))⟩,
      ⟨(some 8), .mv (.t 39), none, none⟩])
     (.seq (.seq (.reg none [
      ⟨(some 40), .mv (.t 8), none, none⟩,
      ⟨(some 41), .bin .lss (.t 40) (.c (.v (.int .i64 (-1)))), none, none⟩,
      ⟨(some 42), .mv (.t 41), none, none⟩,
      ⟨(some 43), .mv (.t 8), (some (42, false)), none⟩,
      ⟨(some 44), .fieldA 1 (.t 2), (some (42, false)), none⟩,
      ⟨(some 45), .load none (.t 44), (some (42, false)), none⟩,
      ⟨(some 46), .len (.t 45), (some (42, false)), none⟩,
      ⟨(some 47), .bin .geq (.t 43) (.t 46), (some (42, false)), none⟩,
      ⟨(some 48), .pick (.t 42) (.c (.v (.bool true))) (.t 47), none, none⟩])
     (.cond (.t 48) (.seq (.reg none [
       ⟨(some 4), .mv (.c (.v (.bool false))), none, none⟩])
      .ret) .skip))
     (.seq (.seq (.reg none [
      ⟨(some 9), .mv (.c (.v (.int .i64 0))), none, none⟩])
     (c_vo_in f_verdict_Matches))
     (.seq (.reg none [
      ⟨(some 83), .mv (.t 8), none, none⟩,
      ⟨(some 84), .bin .lss (.t 83) (.c (.v (.int .i64 0))), none, none⟩,
      ⟨(some 85), .mv (.t 84), none, none⟩,
      ⟨(some 86), .fieldA 1 (.t 2), (some (85, false)), none⟩,
      ⟨(some 87), .load none (.t 86), (some (85, false)), none⟩,
      ⟨(some 88), .mv (.t 8), (some (85, false)), none⟩,
      ⟨(some 89), .idxA 11 (.t 87) (.t 88), (some (85, false)), none⟩,
      ⟨(some 90), .fieldA 1 (.t 89), (some (85, false)), none⟩,
      ⟨(some 91), .load none (.t 90), (some (85, false)), none⟩,
      ⟨(some 92), .pick (.t 85) (.c (.v (.bool true))) (.t 91), none, none⟩,
      ⟨(some 11), .mv (.t 92), none, none⟩])
     (.seq (.seq (.reg none [
      ⟨(some 93), .mv (.t 11), none, none⟩,
      ⟨(some 94), .load (some 4) (.t 2), none, none⟩,
      ⟨(some 95), .mv (.t 1), none, none⟩,
      ⟨(some 96), .mv (.t 7), none, none⟩,
      ⟨(some 97), .mv (.c .junk), none, (some ((.c (.clo f_verdict_Cut [] [])), [(.t 94), (.t 95), (.t 96)]))⟩,
      ⟨(some 98), .beq true (.t 93) (.t 97), none, none⟩,
      ⟨(some 99), .mv (.t 98), none, none⟩,
      ⟨(some 100), .mv (.t 11), (some (99, false)), none⟩,
      ⟨(some 101), .mv (.t 100), (some (99, false)), none⟩,
      ⟨(some 102), .mv (.t 6), (some (101, true)), none⟩,
      ⟨(some 103), .mv (.t 5), (some (101, true)), none⟩,
      ⟨(some 104), .len (.t 103), (some (101, true)), none⟩,
      ⟨(some 105), .bin .geq (.t 102) (.t 104), (some (101, true)), none⟩,
      ⟨(some 106), .mv (.t 105), (some (101, true)), none⟩,
      ⟨(some 107), .mv (.t 5), (some (106, false)), none⟩,
      ⟨(some 108), .mv (.t 6), (some (106, false)), none⟩,
      ⟨(some 109), .idxA 1 (.t 107) (.t 108), (some (106, false)), none⟩,
      ⟨(some 110), .load none (.t 109), (some (106, false)), none⟩,
      ⟨(some 111), .mv (.t 7), (some (106, false)), none⟩,
      ⟨(some 112), .bin .neq (.t 110) (.t 111), (some (106, false)), none⟩,
      ⟨(some 113), .pick (.t 106) (.c (.v (.bool true))) (.t 112), (some (101, true)), none⟩,
      ⟨(some 114), .pick (.t 101) (.t 113) (.c (.v (.bool false))), (some (99, false)), none⟩,
      ⟨(some 115), .pick (.t 99) (.c (.v (.bool true))) (.t 114), none, none⟩])
     (.cond (.t 115) (.seq (.reg none [
       ⟨(some 4), .mv (.c (.v (.bool false))), none, none⟩])
      .ret) .skip))
     (.seq (.reg none [
      ⟨(some 116), .mv (.t 11), none, none⟩])
     (.cond (.t 116) (.reg none [
       ⟨(some 117), .mv (.t 6), none, none⟩,
       ⟨(some 118), .bin .add (.t 117) (.c (.v (.int .i64 1))), none, none⟩,
       ⟨(some 6), .mv (.t 118), none, none⟩]) .skip))))))))
    (.reg none [
     ⟨(some 34), .mv (.t 7), none, none⟩,
     ⟨(some 35), .bin .add (.t 34) (.c (.v (.int .i64 1))), none, none⟩,
     ⟨(some 7), .mv (.t 35), none, none⟩])))))
def c_caesuralaw12_VerdictOne (f_caesuralaw12_alive f_caesuraref09_Great f_verdict_Cuts f_verdict_Decides f_verdict_Matches f_verdict_Cut : FuncId) : AC :=
  (.seq (.reg none [
   ⟨(some 2), .box 4 (.t 0), none, none⟩,
   ⟨(some 4), .mv (.c (.v (.bool false))), none, none⟩])
  (.seq (.seq (.reg none [
   ⟨(some 12), .mv (.c .junk), none, (some ((.c (.clo f_caesuralaw12_alive [] [])), []))⟩,
   ⟨(some 13), .un .not (.t 12), none, none⟩])
  (.cond (.t 13) (.seq (.reg none [
    ⟨(some 4), .mv (.c (.v (.bool false))), none, none⟩])
   .ret) .skip))
  (.seq (.seq (.reg none [
   ⟨(some 14), .load (some 4) (.t 2), none, none⟩,
   ⟨(some 15), .mv (.c .junk), none, (some ((.c (.clo f_caesuraref09_Great [] [])), [(.t 14), (.c (.v (.int .i64 300)))]))⟩,
   ⟨(some 16), .mv (.t 15), none, none⟩,
   ⟨(some 17), .mv (.t 1), (some (16, false)), none⟩,
   ⟨(some 18), .len (.t 17), (some (16, false)), none⟩,
   ⟨(some 19), .bin .gtr (.t 18) (.c (.v (.int .i64 10))), (some (16, false)), none⟩,
   ⟨(some 20), .pick (.t 16) (.c (.v (.bool true))) (.t 19), none, none⟩,
   ⟨(some 21), .mv (.t 20), none, none⟩,
   ⟨(some 22), .fieldA 1 (.t 2), (some (21, false)), none⟩,
   ⟨(some 23), .load none (.t 22), (some (21, false)), none⟩,
   ⟨(some 24), .len (.t 23), (some (21, false)), none⟩,
   ⟨(some 25), .bin .gtr (.t 24) (.c (.v (.int .i64 6))), (some (21, false)), none⟩,
   ⟨(some 26), .pick (.t 21) (.c (.v (.bool true))) (.t 25), none, none⟩])
  (.cond (.t 26) (.seq (.reg none [
    ⟨(some 4), .mv (.c (.v (.bool true))), none, none⟩])
   .ret) .skip))
  (.seq (.reg none [
   ⟨(some 27), .load (some 4) (.t 2), none, none⟩,
   ⟨(some 28), .mv (.t 1), none, none⟩,
   ⟨(some 29), .mv (.c .junk), none, (some ((.c (.clo f_verdict_Cuts [] [])), [(.t 27), (.t 28)]))⟩,
   ⟨(some 5), .mv (.t 29), none, none⟩])
  (.seq (.reg none [
   ⟨(some 6), .mv (.c (.v (.int .i64 0))), none, none⟩])
  (.seq (.seq (.reg none [
   ⟨(some 7), .mv (.c (.v (.int .i64 1))), none, none⟩])
  (c_vo_out f_verdict_Decides f_verdict_Matches f_verdict_Cut))
  (.seq (.reg none [
   ⟨(some 119), .mv (.t 6), none, none⟩,
   ⟨(some 120), .mv (.t 5), none, none⟩,
   ⟨(some 121), .len (.t 120), none, none⟩,
   ⟨(some 122), .bin .eql (.t 119) (.t 121), none, none⟩,
   ⟨(some 4), .mv (.t 122), none, none⟩])
  .ret)))))))
structure VoS (x : Bk) (l : List Int) (at_ d : Int) (c5 : AV) (n6 : Int) (f : AF) (S : St) : Prop where
  e1 : f 1 = encIs l
  e2 : f 2 = .ptr 0 0 0
  e5 : f 5 = c5
  e6 : f 6 = encI n6
  e7 : f 7 = encI at_
  e8 : f 8 = encI d
  g0 : S.g 0 = some (.arr 4 [encBk x])
theorem VoS.same {x : Bk} {l : List Int} {at_ d : Int} {c5 : AV} {n6 : Int} {f f' : AF} {S S' : St} (h : VoS x l at_ d c5 n6 f S) (hf : ∀ j, j = 1 ∨ j = 2 ∨ j = 5 ∨ j = 6 ∨ j = 7 ∨ j = 8 → f' j = f j) (hg : S'.g = S.g) : VoS x l at_ d c5 n6 f' S' :=
  ⟨by rw [hf _ (by simp)]; exact h.e1, by rw [hf _ (by simp)]; exact h.e2, by rw [hf _ (by simp)]; exact h.e5, by rw [hf _ (by simp)]; exact h.e6, by rw [hf _ (by simp)]; exact h.e7, by rw [hf _ (by simp)]; exact h.e8, by rw [hg]; exact h.g0⟩
def VoI (x : Bk) (l : List Int) (at_ d : Int) (c5 : AV) (n6 : Int) (i : Nat) (f : AF) (S : St) : Prop := VoS x l at_ d c5 n6 f S ∧ f 9 = encI i
theorem vo_in {P : Program} {fm : FuncId} {x : Bk} (ok : BkOk x) {l : List Int} {at_ d : Int} {c5 : AV} {n6 : Int} (hx : x.rules.length ≤ 100000) (hm : ∀ r ∈ x.rules, PureC P fm [encRul r, encIs l, encI at_] (encB (verM r l at_)))
    (h1 : d < 0 → ∀ r ∈ x.rules, verM r l at_ = false) (h2 : ∀ j (h : j < x.rules.length), d = (j : Int) → verM x.rules[j] l at_ = true) (h3 : ∀ j (h : j < x.rules.length), (j : Int) < d → verM x.rules[j] l at_ = false)
    {f : AF} {S : St} {Q : Exit → AF → St → Prop} (h : VoI x l at_ d c5 n6 0 f S) (hk : ∀ f' S', VoS x l at_ d c5 n6 f' S' → Q .normal f' S') : AW P (c_vo_in fm) Q f S := by
  simp [AW_seq, AW_reg, AW_regD, AW_block, AW_cond, AW_skip, AW_exit, AW_ret, AW_scp, condR_true, condR_false, AThen_normal, AThen_ret, AThen_exit, ABlock_normal, ABlock_ret, ABlock_exit, AScope_normal, AScope_ret, AScope_exit, RetK_ret, RetK_normal, retAV_one, retAV_two, retAV_three, retAV_nil, RG_nil, RG_op, RG_guard, gdR_tt, gdR_ff, gdR_tf, gdR_ft, gdR_un, RG_call, callQ_clo, contK_ap, opR_some, RD_nil, RD_op0, RD_op1, opD0_some, opD1_some, RD_call, callQD_clo, RD_guard, gdD_tt, gdD_ff, gdD_tf, gdD_ft, gdD_un, psh_nil, psh_cons, Apt_nil, Apt_nilT, Apt_true, Apt_false, Dis_def, runT_val, runT_rd, runT_wr, runT_new, runT_mv, ex, put_some, put_none, ev_t, ev_c, argF_zero, argF_succ, set_g, set_n, cells_v, cells_sl, cells_agg, cells_own, cells_ptr, cells_clo, cells_eptr, cells_mp, putc, exBslice, lfill, exField, exIdxV, exIdxP, exBox, exAlloc, exLoad, exStore, exFieldA, exIdxA, exLen, exPick, exUn, exBeq, exMM, exSeq, seqGo, exExt, binV, intOp, subc, AV.solid, S0, encI, encB, c_vo_in]
  refine AW_for x.rules.length (VoI x l at_ d c5 n6) h ?_
  rintro i f S hi ⟨s, e9⟩
  have e1 := s.e1
  have e2 := s.e2
  have e7 := s.e7
  have e8 := s.e8
  have g0 := s.g0
  simp only [encBk] at g0
  have hv := ok.vc
  have ha := ok.ac
  have hu := ok.uc
  by_cases hlt : i < x.rules.length
  · have hg : x.rules[i]? = some x.rules[i] := List.getElem?_eq_getElem hlt
    have k1 := hm _ (List.getElem_mem hlt)
    have cr := closed_Rul x.rules[i]
    obtain ⟨cs, q1, q2, q3⟩ := encRul_cs x.rules[i]
    have q4 : cs.take 11 = cs := List.take_of_length_le (by omega)
    rw [q1] at k1 cr
    have cc := cl_cons cr (cl_cons (closed_Is l) (cl_cons (closed_I at_) cl_nil))
    simp only [encIs, encI] at k1 cc
    simp [AW_seq, AW_reg, AW_regD, AW_block, AW_cond, AW_skip, AW_exit, AW_ret, AW_scp, condR_true, condR_false, AThen_normal, AThen_ret, AThen_exit, ABlock_normal, ABlock_ret, ABlock_exit, AScope_normal, AScope_ret, AScope_exit, RetK_ret, RetK_normal, retAV_one, retAV_two, retAV_three, retAV_nil, RG_nil, RG_op, RG_guard, gdR_tt, gdR_ff, gdR_tf, gdR_ft, gdR_un, RG_call, callQ_clo, contK_ap, opR_some, RD_nil, RD_op0, RD_op1, opD0_some, opD1_some, RD_call, callQD_clo, RD_guard, gdD_tt, gdD_ff, gdD_tf, gdD_ft, gdD_un, psh_nil, psh_cons, Apt_nil, Apt_nilT, Apt_true, Apt_false, Dis_def, runT_val, runT_rd, runT_wr, runT_new, runT_mv, ex, put_some, put_none, ev_t, ev_c, argF_zero, argF_succ, set_g, set_n, cells_v, cells_sl, cells_agg, cells_own, cells_ptr, cells_clo, cells_eptr, cells_mp, putc, exBslice, lfill, exField, exIdxV, exIdxP, exBox, exAlloc, exLoad, exStore, exFieldA, exIdxA, exLen, exPick, exUn, exBeq, exMM, exSeq, seqGo, exExt, binV, intOp, subc, AV.solid, S0, encI, encB, e1, e2, e7, e8, e9, g0, hv, ha, hu, hlt, hg, q1, q2, q4, encIs]
    refine CallR.pure k1 cc (closed_B _) ?_
    cases hb : verM x.rules[i] l at_ with
    | true =>
      have n1 : ¬ d < 0 := fun h => by rw [h1 h _ (List.getElem_mem hlt)] at hb; cases hb
      have n2 : ¬ (i : Int) < d := fun h => by rw [h3 i hlt h] at hb; cases hb
      by_cases hid : (i : Int) = d
      · have hid' : ((i : Int) == d) = true := by simpa using hid
        simp [AW_seq, AW_reg, AW_regD, AW_block, AW_cond, AW_skip, AW_exit, AW_ret, AW_scp, condR_true, condR_false, AThen_normal, AThen_ret, AThen_exit, ABlock_normal, ABlock_ret, ABlock_exit, AScope_normal, AScope_ret, AScope_exit, RetK_ret, RetK_normal, retAV_one, retAV_two, retAV_three, retAV_nil, RG_nil, RG_op, RG_guard, gdR_tt, gdR_ff, gdR_tf, gdR_ft, gdR_un, RG_call, callQ_clo, contK_ap, opR_some, RD_nil, RD_op0, RD_op1, opD0_some, opD1_some, RD_call, callQD_clo, RD_guard, gdD_tt, gdD_ff, gdD_tf, gdD_ft, gdD_un, psh_nil, psh_cons, Apt_nil, Apt_nilT, Apt_true, Apt_false, Dis_def, runT_val, runT_rd, runT_wr, runT_new, runT_mv, ex, put_some, put_none, ev_t, ev_c, argF_zero, argF_succ, set_g, set_n, cells_v, cells_sl, cells_agg, cells_own, cells_ptr, cells_clo, cells_eptr, cells_mp, putc, exBslice, lfill, exField, exIdxV, exIdxP, exBox, exAlloc, exLoad, exStore, exFieldA, exIdxA, exLen, exPick, exUn, exBeq, exMM, exSeq, seqGo, exExt, binV, intOp, subc, AV.solid, S0, encI, encB, e7, e8, e9, n1, n2, hid']
        rw [wrap_in _ (by omega)]
        refine ⟨hlt, s.same (fun j hj => ?_) rfl, by simp [put_some, encI]⟩
        rcases hj with rfl | rfl | rfl | rfl | rfl | rfl <;> simp [put_some]
      · have hid' : ((i : Int) == d) = false := by simpa using hid
        simp [AW_seq, AW_reg, AW_regD, AW_block, AW_cond, AW_skip, AW_exit, AW_ret, AW_scp, condR_true, condR_false, AThen_normal, AThen_ret, AThen_exit, ABlock_normal, ABlock_ret, ABlock_exit, AScope_normal, AScope_ret, AScope_exit, RetK_ret, RetK_normal, retAV_one, retAV_two, retAV_three, retAV_nil, RG_nil, RG_op, RG_guard, gdR_tt, gdR_ff, gdR_tf, gdR_ft, gdR_un, RG_call, callQ_clo, contK_ap, opR_some, RD_nil, RD_op0, RD_op1, opD0_some, opD1_some, RD_call, callQD_clo, RD_guard, gdD_tt, gdD_ff, gdD_tf, gdD_ft, gdD_un, psh_nil, psh_cons, Apt_nil, Apt_nilT, Apt_true, Apt_false, Dis_def, runT_val, runT_rd, runT_wr, runT_new, runT_mv, ex, put_some, put_none, ev_t, ev_c, argF_zero, argF_succ, set_g, set_n, cells_v, cells_sl, cells_agg, cells_own, cells_ptr, cells_clo, cells_eptr, cells_mp, putc, exBslice, lfill, exField, exIdxV, exIdxP, exBox, exAlloc, exLoad, exStore, exFieldA, exIdxA, exLen, exPick, exUn, exBeq, exMM, exSeq, seqGo, exExt, binV, intOp, subc, AV.solid, S0, encI, encB, e7, e8, e9, n1, n2, hid']
        rw [wrap_in _ (by omega)]
        refine ⟨hlt, s.same (fun j hj => ?_) rfl, by simp [put_some, encI]⟩
        rcases hj with rfl | rfl | rfl | rfl | rfl | rfl <;> simp [put_some]
    | false =>
      have hid : ¬ (i : Int) = d := fun h => by rw [h2 i hlt h.symm] at hb; cases hb
      have hid' : ((i : Int) == d) = false := by simpa using hid
      simp [AW_seq, AW_reg, AW_regD, AW_block, AW_cond, AW_skip, AW_exit, AW_ret, AW_scp, condR_true, condR_false, AThen_normal, AThen_ret, AThen_exit, ABlock_normal, ABlock_ret, ABlock_exit, AScope_normal, AScope_ret, AScope_exit, RetK_ret, RetK_normal, retAV_one, retAV_two, retAV_three, retAV_nil, RG_nil, RG_op, RG_guard, gdR_tt, gdR_ff, gdR_tf, gdR_ft, gdR_un, RG_call, callQ_clo, contK_ap, opR_some, RD_nil, RD_op0, RD_op1, opD0_some, opD1_some, RD_call, callQD_clo, RD_guard, gdD_tt, gdD_ff, gdD_tf, gdD_ft, gdD_un, psh_nil, psh_cons, Apt_nil, Apt_nilT, Apt_true, Apt_false, Dis_def, runT_val, runT_rd, runT_wr, runT_new, runT_mv, ex, put_some, put_none, ev_t, ev_c, argF_zero, argF_succ, set_g, set_n, cells_v, cells_sl, cells_agg, cells_own, cells_ptr, cells_clo, cells_eptr, cells_mp, putc, exBslice, lfill, exField, exIdxV, exIdxP, exBox, exAlloc, exLoad, exStore, exFieldA, exIdxA, exLen, exPick, exUn, exBeq, exMM, exSeq, seqGo, exExt, binV, intOp, subc, AV.solid, S0, encI, encB, e7, e8, e9, hid']
      rw [wrap_in _ (by omega)]
      refine ⟨hlt, s.same (fun j hj => ?_) rfl, by simp [put_some, encI]⟩
      rcases hj with rfl | rfl | rfl | rfl | rfl | rfl <;> simp [put_some]
  · simp [AW_seq, AW_reg, AW_regD, AW_block, AW_cond, AW_skip, AW_exit, AW_ret, AW_scp, condR_true, condR_false, AThen_normal, AThen_ret, AThen_exit, ABlock_normal, ABlock_ret, ABlock_exit, AScope_normal, AScope_ret, AScope_exit, RetK_ret, RetK_normal, retAV_one, retAV_two, retAV_three, retAV_nil, RG_nil, RG_op, RG_guard, gdR_tt, gdR_ff, gdR_tf, gdR_ft, gdR_un, RG_call, callQ_clo, contK_ap, opR_some, RD_nil, RD_op0, RD_op1, opD0_some, opD1_some, RD_call, callQD_clo, RD_guard, gdD_tt, gdD_ff, gdD_tf, gdD_ft, gdD_un, psh_nil, psh_cons, Apt_nil, Apt_nilT, Apt_true, Apt_false, Dis_def, runT_val, runT_rd, runT_wr, runT_new, runT_mv, ex, put_some, put_none, ev_t, ev_c, argF_zero, argF_succ, set_g, set_n, cells_v, cells_sl, cells_agg, cells_own, cells_ptr, cells_clo, cells_eptr, cells_mp, putc, exBslice, lfill, exField, exIdxV, exIdxP, exBox, exAlloc, exLoad, exStore, exFieldA, exIdxA, exLen, exPick, exUn, exBeq, exMM, exSeq, seqGo, exExt, binV, intOp, subc, AV.solid, S0, encI, encB, e1, e2, e7, e8, e9, g0, hv, ha, hu, hlt]
    refine hk _ _ (s.same (fun j hj => ?_) rfl)
    rcases hj with rfl | rfl | rfl | rfl | rfl | rfl <;> simp [put_some]
theorem cutsP_app (x : Bk) (l : List Int) (k : Nat) : ∀ d, ∃ R : List Int, cutsP x l (k + d) = cutsP x l k ++ R
  | 0 => ⟨[], by simp⟩
  | d + 1 => by
    obtain ⟨R, h⟩ := cutsP_app x l k d
    exact ⟨R ++ (if cutB x l ((k + d : Nat) : Int) = true then [((k + d : Nat) : Int)] else []), by rw [← Nat.add_assoc, cutsP_succ, h, List.append_assoc]⟩
theorem cutsP_get {x : Bk} {l : List Int} {k n : Nat} (hk : k < n) (hc : cutB x l (k : Int) = true) : ∃ h : (cutsP x l k).length < (cutsP x l n).length, (cutsP x l n)[(cutsP x l k).length] = (k : Int) := by
  obtain ⟨R, h⟩ := cutsP_app x l (k + 1) (n - (k + 1))
  rw [show k + 1 + (n - (k + 1)) = n by omega, cutsP_succ, hc, if_pos rfl] at h
  refine ⟨by rw [h]; simp, ?_⟩
  simp only [h]
  rw [List.getElem_append_left (by simp), List.getElem_append_right (by omega)]
  simp
theorem idxF_facts {X : Type} (p : X → Bool) (l : List X) : (idxF p l < 0 → ∀ r ∈ l, p r = false) ∧ (∀ j (h : j < l.length), idxF p l = (j : Int) → p l[j] = true) ∧ (∀ j (h : j < l.length), (j : Int) < idxF p l → p l[j] = false) := by
  unfold idxF
  by_cases h : l.any p = true
  · rw [if_pos h]
    refine ⟨fun h2 => by omega, fun j hj h2 => ?_, fun j hj h2 => ?_⟩
    · have := (List.findIdx_eq hj).mp (by omega : l.findIdx p = j)
      exact this.1
    · have h4 : j < l.findIdx p := by omega
      simpa using List.not_of_lt_findIdx h4
  · rw [if_neg h]
    have h' : l.any p = false := by simpa using h
    exact ⟨fun _ r hr => by simpa using (List.any_eq_false.mp h') r hr, fun j hj h2 => by omega, fun j hj h2 => by omega⟩
def VouI (x : Bk) (l : List Int) (k : Nat) (f : AF) (S : St) : Prop := f 1 = encIs l ∧ f 2 = .ptr 0 0 0 ∧ f 5 = encIs (cutsP x l l.length) ∧ f 6 = encI (cutsP x l (k + 1)).length ∧ f 7 = encI ((k : Int) + 1) ∧ S.g 0 = some (.arr 4 [encBk x])
theorem vo_out {P : Program} {fd fm fc : FuncId} {x : Bk} (ok : BkOk x) {l : List Int} (hl : l.length ≤ 10) (hx : x.rules.length ≤ 6) (hd : ∀ i : Int, PureC P fd [encBk x, encIs l, encI i] (encI (decP x l i))) (hm : ∀ r ∈ x.rules, ∀ i : Int, PureC P fm [encRul r, encIs l, encI i] (encB (verM r l i))) (hc : ∀ i : Int, PureC P fc [encBk x, encIs l, encI i] (encB (cutB x l i)))
    {f : AF} {S : St} {Q : Exit → AF → St → Prop} (h : VouI x l 0 f S) (hk : ∀ f' S', VouI x l (l.length - 1) f' S' → Q .normal f' S') : AW P (c_vo_out fd fm fc) Q f S := by
  simp [AW_seq, AW_reg, AW_regD, AW_block, AW_cond, AW_skip, AW_exit, AW_ret, AW_scp, condR_true, condR_false, AThen_normal, AThen_ret, AThen_exit, ABlock_normal, ABlock_ret, ABlock_exit, AScope_normal, AScope_ret, AScope_exit, RetK_ret, RetK_normal, retAV_one, retAV_two, retAV_three, retAV_nil, RG_nil, RG_op, RG_guard, gdR_tt, gdR_ff, gdR_tf, gdR_ft, gdR_un, RG_call, callQ_clo, contK_ap, opR_some, RD_nil, RD_op0, RD_op1, opD0_some, opD1_some, RD_call, callQD_clo, RD_guard, gdD_tt, gdD_ff, gdD_tf, gdD_ft, gdD_un, psh_nil, psh_cons, Apt_nil, Apt_nilT, Apt_true, Apt_false, Dis_def, runT_val, runT_rd, runT_wr, runT_new, runT_mv, ex, put_some, put_none, ev_t, ev_c, argF_zero, argF_succ, set_g, set_n, cells_v, cells_sl, cells_agg, cells_own, cells_ptr, cells_clo, cells_eptr, cells_mp, putc, exBslice, lfill, exField, exIdxV, exIdxP, exBox, exAlloc, exLoad, exStore, exFieldA, exIdxA, exLen, exPick, exUn, exBeq, exMM, exSeq, seqGo, exExt, binV, intOp, subc, AV.solid, S0, encI, encB, c_vo_out]
  refine AW_for (l.length - 1) (VouI x l) h ?_
  rintro k f S hk' ⟨e1, e2, e5, e6, e7, g0⟩
  have g0' := g0
  simp only [encBk] at g0
  have hv := ok.vc
  have ha := ok.ac
  have hu := ok.uc
  by_cases hlt : k + 1 < l.length
  · have hlt' : (k : Int) + 1 < l.length := by omega
    have kd := hd ((k : Int) + 1)
    have cc := cl_cons (closed_Bk ok) (cl_cons (closed_Is l) (cl_cons (closed_I ((k : Int) + 1)) cl_nil))
    simp only [encBk, encIs, encI] at kd cc
    simp [AW_seq, AW_reg, AW_regD, AW_block, AW_cond, AW_skip, AW_exit, AW_ret, AW_scp, condR_true, condR_false, AThen_normal, AThen_ret, AThen_exit, ABlock_normal, ABlock_ret, ABlock_exit, AScope_normal, AScope_ret, AScope_exit, RetK_ret, RetK_normal, retAV_one, retAV_two, retAV_three, retAV_nil, RG_nil, RG_op, RG_guard, gdR_tt, gdR_ff, gdR_tf, gdR_ft, gdR_un, RG_call, callQ_clo, contK_ap, opR_some, RD_nil, RD_op0, RD_op1, opD0_some, opD1_some, RD_call, callQD_clo, RD_guard, gdD_tt, gdD_ff, gdD_tf, gdD_ft, gdD_un, psh_nil, psh_cons, Apt_nil, Apt_nilT, Apt_true, Apt_false, Dis_def, runT_val, runT_rd, runT_wr, runT_new, runT_mv, ex, put_some, put_none, ev_t, ev_c, argF_zero, argF_succ, set_g, set_n, cells_v, cells_sl, cells_agg, cells_own, cells_ptr, cells_clo, cells_eptr, cells_mp, putc, exBslice, lfill, exField, exIdxV, exIdxP, exBox, exAlloc, exLoad, exStore, exFieldA, exIdxA, exLen, exPick, exUn, exBeq, exMM, exSeq, seqGo, exExt, binV, intOp, subc, AV.solid, S0, encI, encB, e1, e2, e5, e6, e7, g0, hv, ha, hu, hlt', encIs]
    refine CallR.pure kd cc (closed_I _) ?_
    have hin : innerB l ((k : Int) + 1) = true := by simp [innerB]; omega
    have hdat := decP_at x l ((k : Int) + 1)
    have hcut : cutB x l ((k : Int) + 1) = (decide (decP x l ((k : Int) + 1) < 0) || rcut x (decP x l ((k : Int) + 1))) := by unfold cutB; rw [hin, Bool.true_and]
    have hdd : decP x l ((k : Int) + 1) = idxF (fun r => verM r l ((k : Int) + 1)) x.rules := by unfold decP; rw [if_pos hin]
    obtain ⟨d1, d2, d3⟩ := idxF_facts (fun r => verM r l ((k : Int) + 1)) x.rules
    rw [← hdd] at d1 d2 d3
    generalize decP x l ((k : Int) + 1) = d at *
    have hge : ¬ d < -1 := by rcases hdat with rfl | ⟨i, rfl, _⟩ <;> omega
    have hlr : ¬ (x.rules.length : Int) ≤ d := by rcases hdat with rfl | ⟨i, rfl, h⟩ <;> omega
    simp [AW_seq, AW_reg, AW_regD, AW_block, AW_cond, AW_skip, AW_exit, AW_ret, AW_scp, condR_true, condR_false, AThen_normal, AThen_ret, AThen_exit, ABlock_normal, ABlock_ret, ABlock_exit, AScope_normal, AScope_ret, AScope_exit, RetK_ret, RetK_normal, retAV_one, retAV_two, retAV_three, retAV_nil, RG_nil, RG_op, RG_guard, gdR_tt, gdR_ff, gdR_tf, gdR_ft, gdR_un, RG_call, callQ_clo, contK_ap, opR_some, RD_nil, RD_op0, RD_op1, opD0_some, opD1_some, RD_call, callQD_clo, RD_guard, gdD_tt, gdD_ff, gdD_tf, gdD_ft, gdD_un, psh_nil, psh_cons, Apt_nil, Apt_nilT, Apt_true, Apt_false, Dis_def, runT_val, runT_rd, runT_wr, runT_new, runT_mv, ex, put_some, put_none, ev_t, ev_c, argF_zero, argF_succ, set_g, set_n, cells_v, cells_sl, cells_agg, cells_own, cells_ptr, cells_clo, cells_eptr, cells_mp, putc, exBslice, lfill, exField, exIdxV, exIdxP, exBox, exAlloc, exLoad, exStore, exFieldA, exIdxA, exLen, exPick, exUn, exBeq, exMM, exSeq, seqGo, exExt, binV, intOp, subc, AV.solid, S0, encI, encB, e1, e2, e5, e6, e7, g0, hv, ha, hu, hge, hlr, encIs]
    refine vo_in (at_ := (k : Int) + 1) (d := d) (c5 := encIs (cutsP x l l.length)) (n6 := (cutsP x l (k + 1)).length) ok (by omega) (fun r hr => hm r hr _) d1 d2 d3 ⟨⟨?_, ?_, ?_, ?_, ?_, ?_, ?_⟩, ?_⟩ (fun f2 S2 s => ?_)
    · simp [put_some, e1, encIs]
    · simp [put_some, e2]
    · simp [put_some, e5, encIs]
    · simp [put_some, e6]
    · simp [put_some, e7]
    · simp [put_some, encI]
    · exact g0'
    · simp [put_some, encI]
    · have E1 := s.e1
      have E2 := s.e2
      have E5 := s.e5
      have E6 := s.e6
      have E7 := s.e7
      have E8 := s.e8
      have G0 := s.g0
      have G0' := G0
      simp only [encBk] at G0
      have kc := hc ((k : Int) + 1)
      simp only [encBk, encIs, encI] at kc
      have hsucc := cutsP_succ x l (k + 1)
      have hcast : (((k + 1 : Nat)) : Int) = (k : Int) + 1 := by omega
      rw [hcast] at hsucc
      have hlenc := cutsP_len x l (k + 1)
      have hget : cutB x l ((k : Int) + 1) = true → ∃ h : (cutsP x l (k + 1)).length < (cutsP x l l.length).length, (cutsP x l l.length)[(cutsP x l (k + 1)).length] = (k : Int) + 1 := fun hb => by
        have := cutsP_get (x := x) (l := l) (k := k + 1) (n := l.length) (by omega) (by rw [hcast]; exact hb)
        rw [hcast] at this; exact this
      rcases hdat with rfl | ⟨i, rfl, hil⟩
      · have hb : cutB x l ((k : Int) + 1) = true := by rw [hcut]; rfl
        obtain ⟨g1, g2⟩ := hget hb
        have g3 : (cutsP x l l.length)[(cutsP x l (k + 1)).length]? = some ((k : Int) + 1) := by rw [List.getElem?_eq_getElem g1, g2]
        have g4 : ¬ ((cutsP x l l.length).length : Int) ≤ ((cutsP x l (k + 1)).length : Int) := by omega
        have g5 : ¬ (cutsP x l l.length).length ≤ (cutsP x l (k + 1)).length := by omega
        rw [hb] at kc hsucc
        simp [AW_seq, AW_reg, AW_regD, AW_block, AW_cond, AW_skip, AW_exit, AW_ret, AW_scp, condR_true, condR_false, AThen_normal, AThen_ret, AThen_exit, ABlock_normal, ABlock_ret, ABlock_exit, AScope_normal, AScope_ret, AScope_exit, RetK_ret, RetK_normal, retAV_one, retAV_two, retAV_three, retAV_nil, RG_nil, RG_op, RG_guard, gdR_tt, gdR_ff, gdR_tf, gdR_ft, gdR_un, RG_call, callQ_clo, contK_ap, opR_some, RD_nil, RD_op0, RD_op1, opD0_some, opD1_some, RD_call, callQD_clo, RD_guard, gdD_tt, gdD_ff, gdD_tf, gdD_ft, gdD_un, psh_nil, psh_cons, Apt_nil, Apt_nilT, Apt_true, Apt_false, Dis_def, runT_val, runT_rd, runT_wr, runT_new, runT_mv, ex, put_some, put_none, ev_t, ev_c, argF_zero, argF_succ, set_g, set_n, cells_v, cells_sl, cells_agg, cells_own, cells_ptr, cells_clo, cells_eptr, cells_mp, putc, exBslice, lfill, exField, exIdxV, exIdxP, exBox, exAlloc, exLoad, exStore, exFieldA, exIdxA, exLen, exPick, exUn, exBeq, exMM, exSeq, seqGo, exExt, binV, intOp, subc, AV.solid, S0, encI, encB, E1, E2, E5, E6, E7, E8, G0, hv, ha, hu, encIs]
        refine CallR.pure kc cc (closed_B _) ?_
        simp [AW_seq, AW_reg, AW_regD, AW_block, AW_cond, AW_skip, AW_exit, AW_ret, AW_scp, condR_true, condR_false, AThen_normal, AThen_ret, AThen_exit, ABlock_normal, ABlock_ret, ABlock_exit, AScope_normal, AScope_ret, AScope_exit, RetK_ret, RetK_normal, retAV_one, retAV_two, retAV_three, retAV_nil, RG_nil, RG_op, RG_guard, gdR_tt, gdR_ff, gdR_tf, gdR_ft, gdR_un, RG_call, callQ_clo, contK_ap, opR_some, RD_nil, RD_op0, RD_op1, opD0_some, opD1_some, RD_call, callQD_clo, RD_guard, gdD_tt, gdD_ff, gdD_tf, gdD_ft, gdD_un, psh_nil, psh_cons, Apt_nil, Apt_nilT, Apt_true, Apt_false, Dis_def, runT_val, runT_rd, runT_wr, runT_new, runT_mv, ex, put_some, put_none, ev_t, ev_c, argF_zero, argF_succ, set_g, set_n, cells_v, cells_sl, cells_agg, cells_own, cells_ptr, cells_clo, cells_eptr, cells_mp, putc, exBslice, lfill, exField, exIdxV, exIdxP, exBox, exAlloc, exLoad, exStore, exFieldA, exIdxA, exLen, exPick, exUn, exBeq, exMM, exSeq, seqGo, exExt, binV, intOp, subc, AV.solid, S0, encI, encB, E1, E2, E5, E6, E7, E8, encIs, g3, g4, g5]
        rw [wrap_in _ (by omega), wrap_in _ (by omega)]
        refine ⟨by omega, ?_, ?_, ?_, ?_, ?_, G0'⟩
        · simp [put_some, E1, encIs]
        · simp [put_some, E2]
        · simp [put_some, E5, encIs]
        · rw [hsucc]; simp [put_some, encI]
        · simp [put_some, encI]
      · have hn : ¬ ((i : Int) < 0) := by omega
        have hg : x.rules[i]? = some x.rules[i] := List.getElem?_eq_getElem hil
        have hr : rcut x (i : Int) = (x.rules[i]).cut := by unfold rcut; rw [Int.toNat_natCast, hg]
        have hcb : cutB x l ((k : Int) + 1) = (x.rules[i]).cut := by rw [hcut, hr, decide_eq_false hn, Bool.false_or]
        obtain ⟨rest, q1, q2⟩ := Rul_cells x.rules[i]
        simp [AW_seq, AW_reg, AW_regD, AW_block, AW_cond, AW_skip, AW_exit, AW_ret, AW_scp, condR_true, condR_false, AThen_normal, AThen_ret, AThen_exit, ABlock_normal, ABlock_ret, ABlock_exit, AScope_normal, AScope_ret, AScope_exit, RetK_ret, RetK_normal, retAV_one, retAV_two, retAV_three, retAV_nil, RG_nil, RG_op, RG_guard, gdR_tt, gdR_ff, gdR_tf, gdR_ft, gdR_un, RG_call, callQ_clo, contK_ap, opR_some, RD_nil, RD_op0, RD_op1, opD0_some, opD1_some, RD_call, callQD_clo, RD_guard, gdD_tt, gdD_ff, gdD_tf, gdD_ft, gdD_un, psh_nil, psh_cons, Apt_nil, Apt_nilT, Apt_true, Apt_false, Dis_def, runT_val, runT_rd, runT_wr, runT_new, runT_mv, ex, put_some, put_none, ev_t, ev_c, argF_zero, argF_succ, set_g, set_n, cells_v, cells_sl, cells_agg, cells_own, cells_ptr, cells_clo, cells_eptr, cells_mp, putc, exBslice, lfill, exField, exIdxV, exIdxP, exBox, exAlloc, exLoad, exStore, exFieldA, exIdxA, exLen, exPick, exUn, exBeq, exMM, exSeq, seqGo, exExt, binV, intOp, subc, AV.solid, S0, encI, encB, E1, E2, E5, E6, E7, E8, G0, hv, ha, hu, hn, hg, hil, q1, q2, encIs]
        refine CallR.pure kc cc (closed_B _) ?_
        cases hb : cutB x l ((k : Int) + 1) with
        | true =>
          have hb2 : (x.rules[i]).cut = true := by rw [← hcb]; exact hb
          obtain ⟨g1, g2⟩ := hget hb
          have g3 : (cutsP x l l.length)[(cutsP x l (k + 1)).length]? = some ((k : Int) + 1) := by rw [List.getElem?_eq_getElem g1, g2]
          have g4 : ¬ ((cutsP x l l.length).length : Int) ≤ ((cutsP x l (k + 1)).length : Int) := by omega
          have g5 : ¬ (cutsP x l l.length).length ≤ (cutsP x l (k + 1)).length := by omega
          rw [hb] at hsucc
          simp [AW_seq, AW_reg, AW_regD, AW_block, AW_cond, AW_skip, AW_exit, AW_ret, AW_scp, condR_true, condR_false, AThen_normal, AThen_ret, AThen_exit, ABlock_normal, ABlock_ret, ABlock_exit, AScope_normal, AScope_ret, AScope_exit, RetK_ret, RetK_normal, retAV_one, retAV_two, retAV_three, retAV_nil, RG_nil, RG_op, RG_guard, gdR_tt, gdR_ff, gdR_tf, gdR_ft, gdR_un, RG_call, callQ_clo, contK_ap, opR_some, RD_nil, RD_op0, RD_op1, opD0_some, opD1_some, RD_call, callQD_clo, RD_guard, gdD_tt, gdD_ff, gdD_tf, gdD_ft, gdD_un, psh_nil, psh_cons, Apt_nil, Apt_nilT, Apt_true, Apt_false, Dis_def, runT_val, runT_rd, runT_wr, runT_new, runT_mv, ex, put_some, put_none, ev_t, ev_c, argF_zero, argF_succ, set_g, set_n, cells_v, cells_sl, cells_agg, cells_own, cells_ptr, cells_clo, cells_eptr, cells_mp, putc, exBslice, lfill, exField, exIdxV, exIdxP, exBox, exAlloc, exLoad, exStore, exFieldA, exIdxA, exLen, exPick, exUn, exBeq, exMM, exSeq, seqGo, exExt, binV, intOp, subc, AV.solid, S0, encI, encB, E1, E2, E5, E6, E7, E8, encIs, g3, g4, g5, hb2]
          rw [wrap_in _ (by omega), wrap_in _ (by omega)]
          refine ⟨by omega, ?_, ?_, ?_, ?_, ?_, G0'⟩
          · simp [put_some, E1, encIs]
          · simp [put_some, E2]
          · simp [put_some, E5, encIs]
          · rw [hsucc]; simp [put_some, encI]
          · simp [put_some, encI]
        | false =>
          have hb2 : (x.rules[i]).cut = false := by rw [← hcb]; exact hb
          rw [hb, if_neg (by simp), List.append_nil] at hsucc
          simp [AW_seq, AW_reg, AW_regD, AW_block, AW_cond, AW_skip, AW_exit, AW_ret, AW_scp, condR_true, condR_false, AThen_normal, AThen_ret, AThen_exit, ABlock_normal, ABlock_ret, ABlock_exit, AScope_normal, AScope_ret, AScope_exit, RetK_ret, RetK_normal, retAV_one, retAV_two, retAV_three, retAV_nil, RG_nil, RG_op, RG_guard, gdR_tt, gdR_ff, gdR_tf, gdR_ft, gdR_un, RG_call, callQ_clo, contK_ap, opR_some, RD_nil, RD_op0, RD_op1, opD0_some, opD1_some, RD_call, callQD_clo, RD_guard, gdD_tt, gdD_ff, gdD_tf, gdD_ft, gdD_un, psh_nil, psh_cons, Apt_nil, Apt_nilT, Apt_true, Apt_false, Dis_def, runT_val, runT_rd, runT_wr, runT_new, runT_mv, ex, put_some, put_none, ev_t, ev_c, argF_zero, argF_succ, set_g, set_n, cells_v, cells_sl, cells_agg, cells_own, cells_ptr, cells_clo, cells_eptr, cells_mp, putc, exBslice, lfill, exField, exIdxV, exIdxP, exBox, exAlloc, exLoad, exStore, exFieldA, exIdxA, exLen, exPick, exUn, exBeq, exMM, exSeq, seqGo, exExt, binV, intOp, subc, AV.solid, S0, encI, encB, E1, E2, E5, E6, E7, E8, encIs, hb2]
          rw [wrap_in _ (by omega)]
          refine ⟨by omega, ?_, ?_, ?_, ?_, ?_, G0'⟩
          · simp [put_some, E1, encIs]
          · simp [put_some, E2]
          · simp [put_some, E5, encIs]
          · rw [hsucc]; simp [put_some, E6, encI]
          · simp [put_some, encI]
  · have hlt' : ¬ (k : Int) + 1 < l.length := by omega
    have hke : k = l.length - 1 := by omega
    subst hke
    simp [AW_seq, AW_reg, AW_regD, AW_block, AW_cond, AW_skip, AW_exit, AW_ret, AW_scp, condR_true, condR_false, AThen_normal, AThen_ret, AThen_exit, ABlock_normal, ABlock_ret, ABlock_exit, AScope_normal, AScope_ret, AScope_exit, RetK_ret, RetK_normal, retAV_one, retAV_two, retAV_three, retAV_nil, RG_nil, RG_op, RG_guard, gdR_tt, gdR_ff, gdR_tf, gdR_ft, gdR_un, RG_call, callQ_clo, contK_ap, opR_some, RD_nil, RD_op0, RD_op1, opD0_some, opD1_some, RD_call, callQD_clo, RD_guard, gdD_tt, gdD_ff, gdD_tf, gdD_ft, gdD_un, psh_nil, psh_cons, Apt_nil, Apt_nilT, Apt_true, Apt_false, Dis_def, runT_val, runT_rd, runT_wr, runT_new, runT_mv, ex, put_some, put_none, ev_t, ev_c, argF_zero, argF_succ, set_g, set_n, cells_v, cells_sl, cells_agg, cells_own, cells_ptr, cells_clo, cells_eptr, cells_mp, putc, exBslice, lfill, exField, exIdxV, exIdxP, exBox, exAlloc, exLoad, exStore, exFieldA, exIdxA, exLen, exPick, exUn, exBeq, exMM, exSeq, seqGo, exExt, binV, intOp, subc, AV.solid, S0, encI, encB, e1, e2, e5, e6, e7, hlt', encIs]
    refine hk _ _ ⟨?_, ?_, ?_, ?_, ?_, g0'⟩
    · simp [put_some, e1, encIs]
    · simp [put_some, e2]
    · simp [put_some, e5, encIs]
    · simp [put_some, e6]
    · simp [put_some, e7]
theorem VerdictOne_body {P : Program} {fl fg fcs fd fm fc : FuncId} (x : Bk) (ok : BkOk x) (l : List Int) (hl : PureC P fl [] (encB true)) (gn : Bool) (hgn : PureC P fg [encBk x, encI 300] (encB gn))
    (H : gn = false → l.length ≤ 10 → x.rules.length ≤ 6 → PureC P fcs [encBk x, encIs l] (encIs (cutsP x l l.length)) ∧ (∀ i : Int, PureC P fd [encBk x, encIs l, encI i] (encI (decP x l i))) ∧ (∀ r ∈ x.rules, ∀ i : Int, PureC P fm [encRul r, encIs l, encI i] (encB (verM r l i))) ∧ ∀ i : Int, PureC P fc [encBk x, encIs l, encI i] (encB (cutB x l i))) :
    AW P (c_caesuralaw12_VerdictOne fl fg fcs fd fm fc) (RetK [4] (FzK (encB true))) (argF [encBk x, encIs l]) S0 := by
  have hv := ok.vc
  have ha := ok.ac
  have hu := ok.uc
  have cb := closed_Bk ok
  have cb2 := cb
  simp only [encBk] at cb2
  have hgn' := hgn
  simp only [encBk, encI] at hgn'
  simp [AW_seq, AW_reg, AW_regD, AW_block, AW_cond, AW_skip, AW_exit, AW_ret, AW_scp, condR_true, condR_false, AThen_normal, AThen_ret, AThen_exit, ABlock_normal, ABlock_ret, ABlock_exit, AScope_normal, AScope_ret, AScope_exit, RetK_ret, RetK_normal, retAV_one, retAV_two, retAV_three, retAV_nil, RG_nil, RG_op, RG_guard, gdR_tt, gdR_ff, gdR_tf, gdR_ft, gdR_un, RG_call, callQ_clo, contK_ap, opR_some, RD_nil, RD_op0, RD_op1, opD0_some, opD1_some, RD_call, callQD_clo, RD_guard, gdD_tt, gdD_ff, gdD_tf, gdD_ft, gdD_un, psh_nil, psh_cons, Apt_nil, Apt_nilT, Apt_true, Apt_false, Dis_def, runT_val, runT_rd, runT_wr, runT_new, runT_mv, ex, put_some, put_none, ev_t, ev_c, argF_zero, argF_succ, set_g, set_n, cells_v, cells_sl, cells_agg, cells_own, cells_ptr, cells_clo, cells_eptr, cells_mp, putc, exBslice, lfill, exField, exIdxV, exIdxP, exBox, exAlloc, exLoad, exStore, exFieldA, exIdxA, exLen, exPick, exUn, exBeq, exMM, exSeq, seqGo, exExt, binV, intOp, subc, AV.solid, S0, encI, encB, c_caesuralaw12_VerdictOne, encBk]
  refine CallR.pure hl cl_nil (closed_B _) ?_
  simp [AW_seq, AW_reg, AW_regD, AW_block, AW_cond, AW_skip, AW_exit, AW_ret, AW_scp, condR_true, condR_false, AThen_normal, AThen_ret, AThen_exit, ABlock_normal, ABlock_ret, ABlock_exit, AScope_normal, AScope_ret, AScope_exit, RetK_ret, RetK_normal, retAV_one, retAV_two, retAV_three, retAV_nil, RG_nil, RG_op, RG_guard, gdR_tt, gdR_ff, gdR_tf, gdR_ft, gdR_un, RG_call, callQ_clo, contK_ap, opR_some, RD_nil, RD_op0, RD_op1, opD0_some, opD1_some, RD_call, callQD_clo, RD_guard, gdD_tt, gdD_ff, gdD_tf, gdD_ft, gdD_un, psh_nil, psh_cons, Apt_nil, Apt_nilT, Apt_true, Apt_false, Dis_def, runT_val, runT_rd, runT_wr, runT_new, runT_mv, ex, put_some, put_none, ev_t, ev_c, argF_zero, argF_succ, set_g, set_n, cells_v, cells_sl, cells_agg, cells_own, cells_ptr, cells_clo, cells_eptr, cells_mp, putc, exBslice, lfill, exField, exIdxV, exIdxP, exBox, exAlloc, exLoad, exStore, exFieldA, exIdxA, exLen, exPick, exUn, exBeq, exMM, exSeq, seqGo, exExt, binV, intOp, subc, AV.solid, S0, encI, encB, hv, ha, hu]
  refine CallR.pure hgn' (cl_cons cb2 (cl_cons (closed_I 300) cl_nil)) (closed_B _) ?_
  cases gn with
  | true =>
    simp [AW_seq, AW_reg, AW_regD, AW_block, AW_cond, AW_skip, AW_exit, AW_ret, AW_scp, condR_true, condR_false, AThen_normal, AThen_ret, AThen_exit, ABlock_normal, ABlock_ret, ABlock_exit, AScope_normal, AScope_ret, AScope_exit, RetK_ret, RetK_normal, retAV_one, retAV_two, retAV_three, retAV_nil, RG_nil, RG_op, RG_guard, gdR_tt, gdR_ff, gdR_tf, gdR_ft, gdR_un, RG_call, callQ_clo, contK_ap, opR_some, RD_nil, RD_op0, RD_op1, opD0_some, opD1_some, RD_call, callQD_clo, RD_guard, gdD_tt, gdD_ff, gdD_tf, gdD_ft, gdD_un, psh_nil, psh_cons, Apt_nil, Apt_nilT, Apt_true, Apt_false, Dis_def, runT_val, runT_rd, runT_wr, runT_new, runT_mv, ex, put_some, put_none, ev_t, ev_c, argF_zero, argF_succ, set_g, set_n, cells_v, cells_sl, cells_agg, cells_own, cells_ptr, cells_clo, cells_eptr, cells_mp, putc, exBslice, lfill, exField, exIdxV, exIdxP, exBox, exAlloc, exLoad, exStore, exFieldA, exIdxA, exLen, exPick, exUn, exBeq, exMM, exSeq, seqGo, exExt, binV, intOp, subc, AV.solid, S0, encI, encB]
    exact FzK_B true _
  | false =>
    by_cases h1 : (10 : Int) < l.length
    · have h1' : 10 < l.length := by omega
      simp [AW_seq, AW_reg, AW_regD, AW_block, AW_cond, AW_skip, AW_exit, AW_ret, AW_scp, condR_true, condR_false, AThen_normal, AThen_ret, AThen_exit, ABlock_normal, ABlock_ret, ABlock_exit, AScope_normal, AScope_ret, AScope_exit, RetK_ret, RetK_normal, retAV_one, retAV_two, retAV_three, retAV_nil, RG_nil, RG_op, RG_guard, gdR_tt, gdR_ff, gdR_tf, gdR_ft, gdR_un, RG_call, callQ_clo, contK_ap, opR_some, RD_nil, RD_op0, RD_op1, opD0_some, opD1_some, RD_call, callQD_clo, RD_guard, gdD_tt, gdD_ff, gdD_tf, gdD_ft, gdD_un, psh_nil, psh_cons, Apt_nil, Apt_nilT, Apt_true, Apt_false, Dis_def, runT_val, runT_rd, runT_wr, runT_new, runT_mv, ex, put_some, put_none, ev_t, ev_c, argF_zero, argF_succ, set_g, set_n, cells_v, cells_sl, cells_agg, cells_own, cells_ptr, cells_clo, cells_eptr, cells_mp, putc, exBslice, lfill, exField, exIdxV, exIdxP, exBox, exAlloc, exLoad, exStore, exFieldA, exIdxA, exLen, exPick, exUn, exBeq, exMM, exSeq, seqGo, exExt, binV, intOp, subc, AV.solid, S0, encI, encB, encIs, h1, h1']
      exact FzK_B true _
    · have h1' : ¬ 10 < l.length := by omega
      by_cases h2 : (6 : Int) < x.rules.length
      · have h2' : 6 < x.rules.length := by omega
        simp [AW_seq, AW_reg, AW_regD, AW_block, AW_cond, AW_skip, AW_exit, AW_ret, AW_scp, condR_true, condR_false, AThen_normal, AThen_ret, AThen_exit, ABlock_normal, ABlock_ret, ABlock_exit, AScope_normal, AScope_ret, AScope_exit, RetK_ret, RetK_normal, retAV_one, retAV_two, retAV_three, retAV_nil, RG_nil, RG_op, RG_guard, gdR_tt, gdR_ff, gdR_tf, gdR_ft, gdR_un, RG_call, callQ_clo, contK_ap, opR_some, RD_nil, RD_op0, RD_op1, opD0_some, opD1_some, RD_call, callQD_clo, RD_guard, gdD_tt, gdD_ff, gdD_tf, gdD_ft, gdD_un, psh_nil, psh_cons, Apt_nil, Apt_nilT, Apt_true, Apt_false, Dis_def, runT_val, runT_rd, runT_wr, runT_new, runT_mv, ex, put_some, put_none, ev_t, ev_c, argF_zero, argF_succ, set_g, set_n, cells_v, cells_sl, cells_agg, cells_own, cells_ptr, cells_clo, cells_eptr, cells_mp, putc, exBslice, lfill, exField, exIdxV, exIdxP, exBox, exAlloc, exLoad, exStore, exFieldA, exIdxA, exLen, exPick, exUn, exBeq, exMM, exSeq, seqGo, exExt, binV, intOp, subc, AV.solid, S0, encI, encB, encIs, h1, h1', h2, h2', hv, ha, hu]
        exact FzK_B true _
      · have h2' : ¬ 6 < x.rules.length := by omega
        obtain ⟨k1, k2, k3, k4⟩ := H rfl (by omega) (by omega)
        have c1 := cl_cons cb2 (cl_cons (closed_Is l) cl_nil)
        have cC := closed_Is (cutsP x l l.length)
        simp only [encBk, encIs] at k1 c1 cC
        simp [AW_seq, AW_reg, AW_regD, AW_block, AW_cond, AW_skip, AW_exit, AW_ret, AW_scp, condR_true, condR_false, AThen_normal, AThen_ret, AThen_exit, ABlock_normal, ABlock_ret, ABlock_exit, AScope_normal, AScope_ret, AScope_exit, RetK_ret, RetK_normal, retAV_one, retAV_two, retAV_three, retAV_nil, RG_nil, RG_op, RG_guard, gdR_tt, gdR_ff, gdR_tf, gdR_ft, gdR_un, RG_call, callQ_clo, contK_ap, opR_some, RD_nil, RD_op0, RD_op1, opD0_some, opD1_some, RD_call, callQD_clo, RD_guard, gdD_tt, gdD_ff, gdD_tf, gdD_ft, gdD_un, psh_nil, psh_cons, Apt_nil, Apt_nilT, Apt_true, Apt_false, Dis_def, runT_val, runT_rd, runT_wr, runT_new, runT_mv, ex, put_some, put_none, ev_t, ev_c, argF_zero, argF_succ, set_g, set_n, cells_v, cells_sl, cells_agg, cells_own, cells_ptr, cells_clo, cells_eptr, cells_mp, putc, exBslice, lfill, exField, exIdxV, exIdxP, exBox, exAlloc, exLoad, exStore, exFieldA, exIdxA, exLen, exPick, exUn, exBeq, exMM, exSeq, seqGo, exExt, binV, intOp, subc, AV.solid, S0, encI, encB, encIs, h1, h1', h2, h2', hv, ha, hu]
        refine CallR.pure k1 c1 cC ?_
        simp [AW_seq, AW_reg, AW_regD, AW_block, AW_cond, AW_skip, AW_exit, AW_ret, AW_scp, condR_true, condR_false, AThen_normal, AThen_ret, AThen_exit, ABlock_normal, ABlock_ret, ABlock_exit, AScope_normal, AScope_ret, AScope_exit, RetK_ret, RetK_normal, retAV_one, retAV_two, retAV_three, retAV_nil, RG_nil, RG_op, RG_guard, gdR_tt, gdR_ff, gdR_tf, gdR_ft, gdR_un, RG_call, callQ_clo, contK_ap, opR_some, RD_nil, RD_op0, RD_op1, opD0_some, opD1_some, RD_call, callQD_clo, RD_guard, gdD_tt, gdD_ff, gdD_tf, gdD_ft, gdD_un, psh_nil, psh_cons, Apt_nil, Apt_nilT, Apt_true, Apt_false, Dis_def, runT_val, runT_rd, runT_wr, runT_new, runT_mv, ex, put_some, put_none, ev_t, ev_c, argF_zero, argF_succ, set_g, set_n, cells_v, cells_sl, cells_agg, cells_own, cells_ptr, cells_clo, cells_eptr, cells_mp, putc, exBslice, lfill, exField, exIdxV, exIdxP, exBox, exAlloc, exLoad, exStore, exFieldA, exIdxA, exLen, exPick, exUn, exBeq, exMM, exSeq, seqGo, exExt, binV, intOp, subc, AV.solid, S0, encI, encB]
        refine vo_out ok (by omega) (by omega) k2 k3 k4 ⟨?_, ?_, ?_, ?_, ?_, ?_⟩ (fun f S h => ?_)
        · simp [put_some, argF_zero, argF_succ, encIs]
        · simp [put_some]
        · simp [put_some, encIs]
        · have : cutsP x l 1 = [] := by
            have h0 : cutB x l 0 = false := by simp [cutB, innerB]
            have := cutsP_succ x l 0
            rw [show ((0 : Nat) : Int) = 0 from rfl, h0] at this
            simpa [cutsP] using this
          simp [put_some, this, encI]
        · simp [put_some, encI]
        · simp [set_g, encBk]
        · obtain ⟨e1, e2, e5, e6, e7, g0⟩ := h
          have hcl : (cutsP x l (l.length - 1 + 1)).length = (cutsP x l l.length).length := by
            by_cases hz : l.length = 0
            · have h0 : cutB x l 0 = false := by simp [cutB, innerB]
              have := cutsP_succ x l 0
              rw [show ((0 : Nat) : Int) = 0 from rfl, h0] at this
              rw [hz]
              simp only [Nat.zero_sub, Nat.zero_add]
              rw [this]; simp
            · rw [show l.length - 1 + 1 = l.length by omega]
          simp [AW_seq, AW_reg, AW_regD, AW_block, AW_cond, AW_skip, AW_exit, AW_ret, AW_scp, condR_true, condR_false, AThen_normal, AThen_ret, AThen_exit, ABlock_normal, ABlock_ret, ABlock_exit, AScope_normal, AScope_ret, AScope_exit, RetK_ret, RetK_normal, retAV_one, retAV_two, retAV_three, retAV_nil, RG_nil, RG_op, RG_guard, gdR_tt, gdR_ff, gdR_tf, gdR_ft, gdR_un, RG_call, callQ_clo, contK_ap, opR_some, RD_nil, RD_op0, RD_op1, opD0_some, opD1_some, RD_call, callQD_clo, RD_guard, gdD_tt, gdD_ff, gdD_tf, gdD_ft, gdD_un, psh_nil, psh_cons, Apt_nil, Apt_nilT, Apt_true, Apt_false, Dis_def, runT_val, runT_rd, runT_wr, runT_new, runT_mv, ex, put_some, put_none, ev_t, ev_c, argF_zero, argF_succ, set_g, set_n, cells_v, cells_sl, cells_agg, cells_own, cells_ptr, cells_clo, cells_eptr, cells_mp, putc, exBslice, lfill, exField, exIdxV, exIdxP, exBox, exAlloc, exLoad, exStore, exFieldA, exIdxA, exLen, exPick, exUn, exBeq, exMM, exSeq, seqGo, exExt, binV, intOp, subc, AV.solid, S0, encI, encB, e5, e6, encIs, hcl]
          exact FzK_B true _
end Go.Rf

