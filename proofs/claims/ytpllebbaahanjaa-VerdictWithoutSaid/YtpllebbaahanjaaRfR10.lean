import Derived.Test.YtpllebbaahanjaaRfR7
/- Own work: forms the other way round; where a rule matches. -/
set_option linter.unusedVariables false
set_option linter.unusedSimpArgs false
namespace Go.Rf
open Go.RowKit

def c_verdict_Matches (f_reach_Ends f_reach_Begins : FuncId) : AC :=
  (.seq (.reg none [
   ⟨(some 3), .box 11 (.t 0), none, none⟩,
   ⟨(some 6), .mv (.c (.v (.bool false))), none, none⟩])
  (.seq (.reg none [
   ⟨(some 7), .fieldA 6 (.t 3), none, none⟩,
   ⟨(some 8), .load (some 4) (.t 7), none, none⟩,
   ⟨(some 9), .mv (.t 1), none, none⟩,
   ⟨(some 10), .mv (.t 2), none, none⟩,
   ⟨(some 11), .mv (.c .junk), none, (some ((.c (.clo f_reach_Ends [] [])), [(.t 8), (.t 9), (.t 10)]))⟩,
   ⟨(some 12), .len (.t 11), none, none⟩,
   ⟨(some 13), .bin .gtr (.t 12) (.c (.v (.int .i64 0))), none, none⟩,
   ⟨(some 14), .mv (.t 13), none, none⟩,
   ⟨(some 15), .fieldA 2 (.t 3), (some (14, true)), none⟩,
   ⟨(some 16), .load (some 4) (.t 15), (some (14, true)), none⟩,
   ⟨(some 17), .mv (.t 1), (some (14, true)), none⟩,
   ⟨(some 18), .mv (.t 2), (some (14, true)), none⟩,
   ⟨(some 19), .mv (.c .junk), (some (14, true)), (some ((.c (.clo f_reach_Begins [] [])), [(.t 16), (.t 17), (.t 18)]))⟩,
   ⟨(some 20), .len (.t 19), (some (14, true)), none⟩,
   ⟨(some 21), .bin .gtr (.t 20) (.c (.v (.int .i64 0))), (some (14, true)), none⟩,
   ⟨(some 22), .pick (.t 14) (.t 21) (.c (.v (.bool false))), none, none⟩,
   ⟨(some 6), .mv (.t 22), none, none⟩])
  .ret))
mutual
def turnP : Pat → Pat
  | .mk k s g ks => .mk k s g (if k = 3 then (turnPs ks).reverse else turnPs ks)
def turnPs : List Pat → List Pat
  | [] => []
  | p :: ps => turnP p :: turnPs ps
end
theorem turnPs_eq : ∀ (ks : List Pat), turnPs ks = ks.map turnP
  | [] => by simp [turnPs]
  | p :: ps => by simp [turnPs, turnPs_eq ps]
theorem PatsS_of : ∀ {ks : List Pat}, (∀ q ∈ ks, PatS q) → PatsS ks
  | [], _ => trivial
  | p :: ps, h => ⟨h p (by simp), PatsS_of (fun q hq => h q (by simp [hq]))⟩
mutual
theorem PatS_turn : ∀ (p : Pat), PatS p → PatS (turnP p)
  | .mk k s g ks, h => by
    simp only [PatS] at h
    rw [turnP, PatS]
    have h2 := PatsS_turn ks h.2.2
    refine ⟨h.1, ?_, PatsS_of (fun q hq => h2 q ?_)⟩
    · split <;> simp [turnPs_eq, h.2.1]
    · split at hq
      · simpa using hq
      · exact hq
theorem PatsS_turn : ∀ (ks : List Pat), PatsS ks → ∀ q ∈ turnPs ks, PatS q
  | [], _, q, hq => by simp [turnPs] at hq
  | p :: ps, h, q, hq => by
    simp only [PatsS] at h
    rw [turnPs] at hq
    rcases List.mem_cons.mp hq with e | hq
    · rw [e]; exact PatS_turn p h.1
    · exact PatsS_turn ps h.2 q hq
end
structure Rul where
  num : Int
  cut : Bool
  before : Pat
  after : Pat
  pos : Int
def encRul (r : Rul) : AV := .agg ([encI r.num, encB r.cut] ++ (encPat r.before).cells ++ (encPat r.after).cells ++ [encI r.pos])
def verM (r : Rul) (l : List Int) (at_ : Int) : Bool := decide (endsP r.after l at_ ≠ []) && decide (beginsP (turnP r.before) l at_ ≠ [])
theorem verdict_Matches_body {P : Program} {fe fb : FuncId} (r : Rul) (l : List Int) (at_ : Int) (he : PureC P fe [encPat r.after, encIs l, encI at_] (encIs (endsP r.after l at_))) (hb : PureC P fb [encPat r.before, encIs l, encI at_] (encIs (beginsP (turnP r.before) l at_))) :
    AW P (c_verdict_Matches fe fb) (RetK [6] (FzK (encB (verM r l at_)))) (argF [encRul r, encIs l, encI at_]) S0 := by
  obtain ⟨num, cut, ⟨bk, bs, bg, bks⟩, ⟨ak, as_, ag, aks⟩, pos⟩ := r
  have ca := cl_cons (closed_Pat (.mk ak as_ ag aks)) (cl_cons (closed_Is l) (cl_cons (closed_I at_) cl_nil))
  have cb := cl_cons (closed_Pat (.mk bk bs bg bks)) (cl_cons (closed_Is l) (cl_cons (closed_I at_) cl_nil))
  have hv : verM ⟨num, cut, .mk bk bs bg bks, .mk ak as_ ag aks, pos⟩ l at_ = (decide (endsP (.mk ak as_ ag aks) l at_ ≠ []) && decide (beginsP (turnP (.mk bk bs bg bks)) l at_ ≠ [])) := rfl
  rw [hv]
  simp only at he hb
  generalize endsP (.mk ak as_ ag aks) l at_ = e at *
  generalize beginsP (turnP (.mk bk bs bg bks)) l at_ = b at *
  simp only [encPat_eq, encIs, encI, encRs] at he hb ca cb
  have hcl : encRul ⟨num, cut, .mk bk bs bg bks, .mk ak as_ ag aks, pos⟩ = .agg [encI num, encB cut, encI bk, encRs bs, encIs bg, .sl false (bks.map encPat), encI ak, encRs as_, encIs ag, .sl false (aks.map encPat), encI pos] := by
    unfold encRul; simp [encPat_eq, AV.cells]
  rw [hcl]
  simp [AW_seq, AW_reg, AW_regD, AW_block, AW_cond, AW_skip, AW_exit, AW_ret, AW_scp, condR_true, condR_false, AThen_normal, AThen_ret, AThen_exit, ABlock_normal, ABlock_ret, ABlock_exit, AScope_normal, AScope_ret, AScope_exit, RetK_ret, RetK_normal, retAV_one, retAV_two, retAV_three, retAV_nil, RG_nil, RG_op, RG_guard, gdR_tt, gdR_ff, gdR_tf, gdR_ft, gdR_un, RG_call, callQ_clo, contK_ap, opR_some, RD_nil, RD_op0, RD_op1, opD0_some, opD1_some, RD_call, callQD_clo, RD_guard, gdD_tt, gdD_ff, gdD_tf, gdD_ft, gdD_un, psh_nil, psh_cons, Apt_nil, Apt_nilT, Apt_true, Apt_false, Dis_def, runT_val, runT_rd, runT_wr, runT_new, runT_mv, ex, put_some, put_none, ev_t, ev_c, argF_zero, argF_succ, set_g, set_n, cells_v, cells_sl, cells_agg, cells_own, cells_ptr, cells_clo, cells_eptr, cells_mp, putc, exBslice, lfill, exField, exIdxV, exIdxP, exBox, exAlloc, exLoad, exStore, exFieldA, exIdxA, exLen, exPick, exUn, exBeq, exMM, exSeq, seqGo, exExt, binV, intOp, subc, AV.solid, S0, encI, encB, c_verdict_Matches, encIs, encRs]
  refine CallR.pure he ca (closed_Is e) ?_
  by_cases z1 : e = []
  · subst z1
    simp [AW_seq, AW_reg, AW_regD, AW_block, AW_cond, AW_skip, AW_exit, AW_ret, AW_scp, condR_true, condR_false, AThen_normal, AThen_ret, AThen_exit, ABlock_normal, ABlock_ret, ABlock_exit, AScope_normal, AScope_ret, AScope_exit, RetK_ret, RetK_normal, retAV_one, retAV_two, retAV_three, retAV_nil, RG_nil, RG_op, RG_guard, gdR_tt, gdR_ff, gdR_tf, gdR_ft, gdR_un, RG_call, callQ_clo, contK_ap, opR_some, RD_nil, RD_op0, RD_op1, opD0_some, opD1_some, RD_call, callQD_clo, RD_guard, gdD_tt, gdD_ff, gdD_tf, gdD_ft, gdD_un, psh_nil, psh_cons, Apt_nil, Apt_nilT, Apt_true, Apt_false, Dis_def, runT_val, runT_rd, runT_wr, runT_new, runT_mv, ex, put_some, put_none, ev_t, ev_c, argF_zero, argF_succ, set_g, set_n, cells_v, cells_sl, cells_agg, cells_own, cells_ptr, cells_clo, cells_eptr, cells_mp, putc, exBslice, lfill, exField, exIdxV, exIdxP, exBox, exAlloc, exLoad, exStore, exFieldA, exIdxA, exLen, exPick, exUn, exBeq, exMM, exSeq, seqGo, exExt, binV, intOp, subc, AV.solid, S0, encI, encB]
    exact FzK_B false _
  · have p1 : 0 < e.length := List.length_pos_iff.mpr z1
    simp [AW_seq, AW_reg, AW_regD, AW_block, AW_cond, AW_skip, AW_exit, AW_ret, AW_scp, condR_true, condR_false, AThen_normal, AThen_ret, AThen_exit, ABlock_normal, ABlock_ret, ABlock_exit, AScope_normal, AScope_ret, AScope_exit, RetK_ret, RetK_normal, retAV_one, retAV_two, retAV_three, retAV_nil, RG_nil, RG_op, RG_guard, gdR_tt, gdR_ff, gdR_tf, gdR_ft, gdR_un, RG_call, callQ_clo, contK_ap, opR_some, RD_nil, RD_op0, RD_op1, opD0_some, opD1_some, RD_call, callQD_clo, RD_guard, gdD_tt, gdD_ff, gdD_tf, gdD_ft, gdD_un, psh_nil, psh_cons, Apt_nil, Apt_nilT, Apt_true, Apt_false, Dis_def, runT_val, runT_rd, runT_wr, runT_new, runT_mv, ex, put_some, put_none, ev_t, ev_c, argF_zero, argF_succ, set_g, set_n, cells_v, cells_sl, cells_agg, cells_own, cells_ptr, cells_clo, cells_eptr, cells_mp, putc, exBslice, lfill, exField, exIdxV, exIdxP, exBox, exAlloc, exLoad, exStore, exFieldA, exIdxA, exLen, exPick, exUn, exBeq, exMM, exSeq, seqGo, exExt, binV, intOp, subc, AV.solid, S0, encI, encB, p1, z1]
    refine CallR.pure hb cb (closed_Is b) ?_
    by_cases z2 : b = []
    · subst z2
      simp [AW_seq, AW_reg, AW_regD, AW_block, AW_cond, AW_skip, AW_exit, AW_ret, AW_scp, condR_true, condR_false, AThen_normal, AThen_ret, AThen_exit, ABlock_normal, ABlock_ret, ABlock_exit, AScope_normal, AScope_ret, AScope_exit, RetK_ret, RetK_normal, retAV_one, retAV_two, retAV_three, retAV_nil, RG_nil, RG_op, RG_guard, gdR_tt, gdR_ff, gdR_tf, gdR_ft, gdR_un, RG_call, callQ_clo, contK_ap, opR_some, RD_nil, RD_op0, RD_op1, opD0_some, opD1_some, RD_call, callQD_clo, RD_guard, gdD_tt, gdD_ff, gdD_tf, gdD_ft, gdD_un, psh_nil, psh_cons, Apt_nil, Apt_nilT, Apt_true, Apt_false, Dis_def, runT_val, runT_rd, runT_wr, runT_new, runT_mv, ex, put_some, put_none, ev_t, ev_c, argF_zero, argF_succ, set_g, set_n, cells_v, cells_sl, cells_agg, cells_own, cells_ptr, cells_clo, cells_eptr, cells_mp, putc, exBslice, lfill, exField, exIdxV, exIdxP, exBox, exAlloc, exLoad, exStore, exFieldA, exIdxA, exLen, exPick, exUn, exBeq, exMM, exSeq, seqGo, exExt, binV, intOp, subc, AV.solid, S0, encI, encB]
      exact FzK_B false _
    · have p2 : 0 < b.length := List.length_pos_iff.mpr z2
      simp [AW_seq, AW_reg, AW_regD, AW_block, AW_cond, AW_skip, AW_exit, AW_ret, AW_scp, condR_true, condR_false, AThen_normal, AThen_ret, AThen_exit, ABlock_normal, ABlock_ret, ABlock_exit, AScope_normal, AScope_ret, AScope_exit, RetK_ret, RetK_normal, retAV_one, retAV_two, retAV_three, retAV_nil, RG_nil, RG_op, RG_guard, gdR_tt, gdR_ff, gdR_tf, gdR_ft, gdR_un, RG_call, callQ_clo, contK_ap, opR_some, RD_nil, RD_op0, RD_op1, opD0_some, opD1_some, RD_call, callQD_clo, RD_guard, gdD_tt, gdD_ff, gdD_tf, gdD_ft, gdD_un, psh_nil, psh_cons, Apt_nil, Apt_nilT, Apt_true, Apt_false, Dis_def, runT_val, runT_rd, runT_wr, runT_new, runT_mv, ex, put_some, put_none, ev_t, ev_c, argF_zero, argF_succ, set_g, set_n, cells_v, cells_sl, cells_agg, cells_own, cells_ptr, cells_clo, cells_eptr, cells_mp, putc, exBslice, lfill, exField, exIdxV, exIdxP, exBox, exAlloc, exLoad, exStore, exFieldA, exIdxA, exLen, exPick, exUn, exBeq, exMM, exSeq, seqGo, exExt, binV, intOp, subc, AV.solid, S0, encI, encB, p2, z2]
      exact FzK_B true _
end Go.Rf


/- Own work: which rule decides. -/
set_option linter.unusedVariables false
set_option linter.unusedSimpArgs false
namespace Go.Rf
open Go.RowKit

def c_verdict_inner : AC :=
  (.seq (.reg none [
   ⟨(some 4), .mv (.c (.v (.bool false))), none, none⟩])
  (.seq (.reg none [
   ⟨(some 5), .mv (.t 1), none, none⟩,
   ⟨(some 6), .bin .gtr (.t 5) (.c (.v (.int .i64 0))), none, none⟩,
   ⟨(some 7), .mv (.t 6), none, none⟩,
   ⟨(some 8), .mv (.t 1), (some (7, true)), none⟩,
   ⟨(some 9), .mv (.t 0), (some (7, true)), none⟩,
   ⟨(some 10), .len (.t 9), (some (7, true)), none⟩,
   ⟨(some 11), .bin .lss (.t 8) (.t 10), (some (7, true)), none⟩,
   ⟨(some 12), .pick (.t 7) (.t 11) (.c (.v (.bool false))), none, none⟩,
   ⟨(some 4), .mv (.t 12), none, none⟩])
  .ret))
def c_slices_IndexFunc_Sapi_Rule_api_Rule_ : AC :=
  (.seq (.reg none [
   ⟨(some 4), .mv (.c (.v (.int .i64 0))), none, none⟩])
  (.seq (.seq (.reg none [
   ⟨(some 6), .mv (.t 0), none, none⟩,
   ⟨(some 7), .len (.t 6), none, none⟩,
   ⟨(some 8), .mv (.c (.v (.int .i64 0))), none, none⟩])
  (.block 0 (.loop (.seq (.reg none [
     ⟨(some 9), .bin .lss (.t 8) (.t 7), none, none⟩])
    (.seq (.cond (.t 9) .skip (.exit 0))
    (.seq (.block 1 (.seq (.reg none [
      ⟨(some 10), .mv (.t 8), none, none⟩,
      ⟨(some 5), .mv (.t 10), none, none⟩])
     (.seq (.reg none [
      ⟨(some 11), .mv (.t 1), none, none⟩,
      ⟨(some 12), .mv (.t 0), none, none⟩,
      ⟨(some 13), .mv (.t 5), none, none⟩,
      ⟨(some 14), .idxA 11 (.t 12) (.t 13), none, none⟩,
      ⟨(some 15), .load (some 11) (.t 14), none, none⟩,
      ⟨(some 16), .mv (.c .junk), none, (some ((.t 11), [(.t 15)]))⟩])
     (.cond (.t 16) (.seq (.reg none [
       ⟨(some 17), .mv (.t 5), none, none⟩,
       ⟨(some 4), .mv (.t 17), none, none⟩])
      .ret) .skip))))
    (.reg none [
     ⟨(some 18), .bin .add (.t 8) (.c (.v (.int .i64 1))), none, none⟩,
     ⟨(some 8), .mv (.t 18), none, none⟩])))))))
  (.seq (.reg none [
   ⟨(some 4), .mv (.c (.v (.int .i64 (-1)))), none, none⟩])
  .ret)))
def c_verdict_Decides_1 (f_verdict_Matches : FuncId) : AC :=
  (.seq (.reg none [
   ⟨(some 3), .box 11 (.t 0), none, none⟩,
   ⟨(some 4), .mv (.c (.v (.bool false))), none, none⟩])
  (.seq (.reg none [
   ⟨(some 5), .load (some 11) (.t 3), none, none⟩,
   ⟨(some 6), .load none (.t 1), none, none⟩,
   ⟨(some 7), .load none (.t 2), none, none⟩,
   ⟨(some 8), .mv (.c .junk), none, (some ((.c (.clo f_verdict_Matches [] [])), [(.t 5), (.t 6), (.t 7)]))⟩,
   ⟨(some 4), .mv (.t 8), none, none⟩])
  .ret))
def c_verdict_Decides (f_verdict_inner f_verdict_Decides_1 f_slices_IndexFunc_Sapi_Rule_api_Rule_ : FuncId) : AC :=
  (.seq (.reg none [
   ⟨(some 3), .box 4 (.t 0), none, none⟩,
   ⟨(some 4), .box 1 (.t 1), none, none⟩,
   ⟨(some 5), .box 1 (.t 2), none, none⟩,
   ⟨(some 6), .mv (.c (.v (.int .i64 0))), none, none⟩])
  (.seq (.seq (.reg none [
   ⟨(some 7), .load none (.t 4), none, none⟩,
   ⟨(some 8), .load none (.t 5), none, none⟩,
   ⟨(some 9), .mv (.c .junk), none, (some ((.c (.clo f_verdict_inner [] [])), [(.t 7), (.t 8)]))⟩,
   ⟨(some 10), .un .not (.t 9), none, none⟩])
  (.cond (.t 10) (.seq (.reg none [
    ⟨(some 6), .mv (.c (.v (.int .i64 (-1)))), none, none⟩])
   .ret) .skip))
  (.seq (.reg none [
   ⟨(some 11), .fieldA 1 (.t 3), none, none⟩,
   ⟨(some 12), .load none (.t 11), none, none⟩,
   ⟨(some 13), .mkf f_verdict_Decides_1 [] [(.t 4), (.t 5)], none, none⟩,
   ⟨(some 14), .mv (.c .junk), none, (some ((.c (.clo f_slices_IndexFunc_Sapi_Rule_api_Rule_ [] [])), [(.t 12), (.t 13)]))⟩,
   ⟨(some 6), .mv (.t 14), none, none⟩])
  .ret)))
def innerB (l : List Int) (at_ : Int) : Bool := decide (0 < at_) && decide (at_ < l.length)
theorem verdict_inner_body {P : Program} (l : List Int) (at_ : Int) : AW P c_verdict_inner (RetK [4] (FzK (encB (innerB l at_)))) (argF [encIs l, encI at_]) S0 := by
  by_cases h0 : 0 < at_
  · by_cases h1 : at_ < l.length
    · have e : innerB l at_ = true := by simp [innerB, h0, h1]
      simp [AW_seq, AW_reg, AW_regD, AW_block, AW_cond, AW_skip, AW_exit, AW_ret, AW_scp, condR_true, condR_false, AThen_normal, AThen_ret, AThen_exit, ABlock_normal, ABlock_ret, ABlock_exit, AScope_normal, AScope_ret, AScope_exit, RetK_ret, RetK_normal, retAV_one, retAV_two, retAV_three, retAV_nil, RG_nil, RG_op, RG_guard, gdR_tt, gdR_ff, gdR_tf, gdR_ft, gdR_un, RG_call, callQ_clo, contK_ap, opR_some, RD_nil, RD_op0, RD_op1, opD0_some, opD1_some, RD_call, callQD_clo, RD_guard, gdD_tt, gdD_ff, gdD_tf, gdD_ft, gdD_un, psh_nil, psh_cons, Apt_nil, Apt_nilT, Apt_true, Apt_false, Dis_def, runT_val, runT_rd, runT_wr, runT_new, runT_mv, ex, put_some, put_none, ev_t, ev_c, argF_zero, argF_succ, set_g, set_n, cells_v, cells_sl, cells_agg, cells_own, cells_ptr, cells_clo, cells_eptr, cells_mp, putc, exBslice, lfill, exField, exIdxV, exIdxP, exBox, exAlloc, exLoad, exStore, exFieldA, exIdxA, exLen, exPick, exUn, exBeq, exMM, exSeq, seqGo, exExt, binV, intOp, subc, AV.solid, S0, encI, encB, c_verdict_inner, encIs, h0, h1, e]
      exact FzK_B true _
    · have e : innerB l at_ = false := by simp [innerB, h0]; omega
      simp [AW_seq, AW_reg, AW_regD, AW_block, AW_cond, AW_skip, AW_exit, AW_ret, AW_scp, condR_true, condR_false, AThen_normal, AThen_ret, AThen_exit, ABlock_normal, ABlock_ret, ABlock_exit, AScope_normal, AScope_ret, AScope_exit, RetK_ret, RetK_normal, retAV_one, retAV_two, retAV_three, retAV_nil, RG_nil, RG_op, RG_guard, gdR_tt, gdR_ff, gdR_tf, gdR_ft, gdR_un, RG_call, callQ_clo, contK_ap, opR_some, RD_nil, RD_op0, RD_op1, opD0_some, opD1_some, RD_call, callQD_clo, RD_guard, gdD_tt, gdD_ff, gdD_tf, gdD_ft, gdD_un, psh_nil, psh_cons, Apt_nil, Apt_nilT, Apt_true, Apt_false, Dis_def, runT_val, runT_rd, runT_wr, runT_new, runT_mv, ex, put_some, put_none, ev_t, ev_c, argF_zero, argF_succ, set_g, set_n, cells_v, cells_sl, cells_agg, cells_own, cells_ptr, cells_clo, cells_eptr, cells_mp, putc, exBslice, lfill, exField, exIdxV, exIdxP, exBox, exAlloc, exLoad, exStore, exFieldA, exIdxA, exLen, exPick, exUn, exBeq, exMM, exSeq, seqGo, exExt, binV, intOp, subc, AV.solid, S0, encI, encB, c_verdict_inner, encIs, h0, h1, e]
      exact FzK_B false _
  · have e : innerB l at_ = false := by simp [innerB, h0]
    simp [AW_seq, AW_reg, AW_regD, AW_block, AW_cond, AW_skip, AW_exit, AW_ret, AW_scp, condR_true, condR_false, AThen_normal, AThen_ret, AThen_exit, ABlock_normal, ABlock_ret, ABlock_exit, AScope_normal, AScope_ret, AScope_exit, RetK_ret, RetK_normal, retAV_one, retAV_two, retAV_three, retAV_nil, RG_nil, RG_op, RG_guard, gdR_tt, gdR_ff, gdR_tf, gdR_ft, gdR_un, RG_call, callQ_clo, contK_ap, opR_some, RD_nil, RD_op0, RD_op1, opD0_some, opD1_some, RD_call, callQD_clo, RD_guard, gdD_tt, gdD_ff, gdD_tf, gdD_ft, gdD_un, psh_nil, psh_cons, Apt_nil, Apt_nilT, Apt_true, Apt_false, Dis_def, runT_val, runT_rd, runT_wr, runT_new, runT_mv, ex, put_some, put_none, ev_t, ev_c, argF_zero, argF_succ, set_g, set_n, cells_v, cells_sl, cells_agg, cells_own, cells_ptr, cells_clo, cells_eptr, cells_mp, putc, exBslice, lfill, exField, exIdxV, exIdxP, exBox, exAlloc, exLoad, exStore, exFieldA, exIdxA, exLen, exPick, exUn, exBeq, exMM, exSeq, seqGo, exExt, binV, intOp, subc, AV.solid, S0, encI, encB, c_verdict_inner, encIs, h0, e]
    exact FzK_B false _
theorem encRul_cs (r : Rul) : ∃ cs : List AV, encRul r = .agg cs ∧ cs.length = 11 ∧ ∀ y ∈ cs, Closed y := by
  refine ⟨_, rfl, ?_, fun y hy => ?_⟩
  · simp [encPat_cells]
  · simp only [List.mem_append, List.mem_cons, List.not_mem_nil, or_false] at hy
    rcases hy with (((rfl | rfl) | hy) | hy) | rfl
    · exact closed_I _
    · exact closed_B _
    · exact (closed_Pat r.before).cells y hy
    · exact (closed_Pat r.after).cells y hy
    · exact closed_I _
theorem closed_Rul (r : Rul) : Closed (encRul r) := by
  obtain ⟨cs, h1, _, h3⟩ := encRul_cs r
  rw [h1]; exact .agg _ h3
theorem Rul_sub (r : Rul) : subc (some 11) (encRul r) 0 = some (encRul r) := by
  obtain ⟨cs, h1, h2, _⟩ := encRul_cs r
  have h4 : cs.take 11 = cs := List.take_of_length_le (by omega)
  rw [h1]; simp [subc, AV.cells, h2, h4]
theorem Rul_len (r : Rul) : (encRul r).cells.length = 11 := by
  obtain ⟨cs, h1, h2, _⟩ := encRul_cs r
  rw [h1]; simpa [AV.cells] using h2
theorem IndexFunc_Rul_body {P : Program} {l : List Rul} {p : Rul → Bool} {g : FuncId} {cap : List AV} (hl : Len l) (hcap : ∀ y ∈ cap, Closed y) (hp : ∀ x ∈ l, PureC P g (encRul x :: cap) (encB (p x))) :
    AW P c_slices_IndexFunc_Sapi_Rule_api_Rule_ (RetK [4] (FzK (encI (idxF p l)))) (argF [.sl false (l.map encRul), .clo g [] cap]) S0 := by
  unfold Len at hl
  simp [AW_seq, AW_reg, AW_regD, AW_block, AW_cond, AW_skip, AW_exit, AW_ret, AW_scp, condR_true, condR_false, AThen_normal, AThen_ret, AThen_exit, ABlock_normal, ABlock_ret, ABlock_exit, AScope_normal, AScope_ret, AScope_exit, RetK_ret, RetK_normal, retAV_one, retAV_two, retAV_three, retAV_nil, RG_nil, RG_op, RG_guard, gdR_tt, gdR_ff, gdR_tf, gdR_ft, gdR_un, RG_call, callQ_clo, contK_ap, opR_some, RD_nil, RD_op0, RD_op1, opD0_some, opD1_some, RD_call, callQD_clo, RD_guard, gdD_tt, gdD_ff, gdD_tf, gdD_ft, gdD_un, psh_nil, psh_cons, Apt_nil, Apt_nilT, Apt_true, Apt_false, Dis_def, runT_val, runT_rd, runT_wr, runT_new, runT_mv, ex, put_some, put_none, ev_t, ev_c, argF_zero, argF_succ, set_g, set_n, cells_v, cells_sl, cells_agg, cells_own, cells_ptr, cells_clo, cells_eptr, cells_mp, putc, exBslice, lfill, exField, exIdxV, exIdxP, exBox, exAlloc, exLoad, exStore, exFieldA, exIdxA, exLen, exPick, exUn, exBeq, exMM, exSeq, seqGo, exExt, binV, intOp, subc, AV.solid, S0, encI, encB, c_slices_IndexFunc_Sapi_Rule_api_Rule_]
  refine AW_loop (idxI encRul l p g cap) l.length ?_ ?_
  · refine ⟨0, by omega, by omega, ?_, ?_, ?_, ?_, by omega⟩ <;> simp [put_some, argF_zero, argF_succ, encI]
  · rintro m f S ⟨i, hi, rfl, e8, e7, e0, e1, hq⟩
    by_cases hlt : i < l.length
    · have hs := Rul_sub l[i]
      have hn := Rul_len l[i]
      have hpi := hp _ (List.getElem_mem hlt)
      have hci := closed_Rul l[i]
      obtain ⟨cs, h1, h2, h3⟩ := encRul_cs l[i]
      rw [h1] at hpi hci
      have h4 : cs.take 11 = cs := List.take_of_length_le (by omega)
      simp [AW_seq, AW_reg, AW_regD, AW_block, AW_cond, AW_skip, AW_exit, AW_ret, AW_scp, condR_true, condR_false, AThen_normal, AThen_ret, AThen_exit, ABlock_normal, ABlock_ret, ABlock_exit, AScope_normal, AScope_ret, AScope_exit, RetK_ret, RetK_normal, retAV_one, retAV_two, retAV_three, retAV_nil, RG_nil, RG_op, RG_guard, gdR_tt, gdR_ff, gdR_tf, gdR_ft, gdR_un, RG_call, callQ_clo, contK_ap, opR_some, RD_nil, RD_op0, RD_op1, opD0_some, opD1_some, RD_call, callQD_clo, RD_guard, gdD_tt, gdD_ff, gdD_tf, gdD_ft, gdD_un, psh_nil, psh_cons, Apt_nil, Apt_nilT, Apt_true, Apt_false, Dis_def, runT_val, runT_rd, runT_wr, runT_new, runT_mv, ex, put_some, put_none, ev_t, ev_c, argF_zero, argF_succ, set_g, set_n, cells_v, cells_sl, cells_agg, cells_own, cells_ptr, cells_clo, cells_eptr, cells_mp, putc, exBslice, lfill, exField, exIdxV, exIdxP, exBox, exAlloc, exLoad, exStore, exFieldA, exIdxA, exLen, exPick, exUn, exBeq, exMM, exSeq, seqGo, exExt, binV, intOp, subc, AV.solid, S0, encI, encB, e8, e7, e0, e1, hlt, h1, h2, h4]
      refine CallR.pure hpi (cl_cons hci hcap) (closed_B _) ?_
      cases hb : p l[i] with
      | true =>
        have hi2 : idxF p l = i := by
          have h1 : l.any p = true := List.any_eq_true.mpr ⟨_, List.getElem_mem hlt, hb⟩
          have h2 : l.findIdx p = i := (List.findIdx_eq hlt).mpr ⟨hb, fun j hj => hq j (by omega) hj⟩
          simp [idxF, h1, h2]
        simp [AW_seq, AW_reg, AW_regD, AW_block, AW_cond, AW_skip, AW_exit, AW_ret, AW_scp, condR_true, condR_false, AThen_normal, AThen_ret, AThen_exit, ABlock_normal, ABlock_ret, ABlock_exit, AScope_normal, AScope_ret, AScope_exit, RetK_ret, RetK_normal, retAV_one, retAV_two, retAV_three, retAV_nil, RG_nil, RG_op, RG_guard, gdR_tt, gdR_ff, gdR_tf, gdR_ft, gdR_un, RG_call, callQ_clo, contK_ap, opR_some, RD_nil, RD_op0, RD_op1, opD0_some, opD1_some, RD_call, callQD_clo, RD_guard, gdD_tt, gdD_ff, gdD_tf, gdD_ft, gdD_un, psh_nil, psh_cons, Apt_nil, Apt_nilT, Apt_true, Apt_false, Dis_def, runT_val, runT_rd, runT_wr, runT_new, runT_mv, ex, put_some, put_none, ev_t, ev_c, argF_zero, argF_succ, set_g, set_n, cells_v, cells_sl, cells_agg, cells_own, cells_ptr, cells_clo, cells_eptr, cells_mp, putc, exBslice, lfill, exField, exIdxV, exIdxP, exBox, exAlloc, exLoad, exStore, exFieldA, exIdxA, exLen, exPick, exUn, exBeq, exMM, exSeq, seqGo, exExt, binV, intOp, subc, AV.solid, S0, encI, encB, e8, e7, e0, e1, hi2]
        exact FzK_I _ _
      | false =>
        simp [AW_seq, AW_reg, AW_regD, AW_block, AW_cond, AW_skip, AW_exit, AW_ret, AW_scp, condR_true, condR_false, AThen_normal, AThen_ret, AThen_exit, ABlock_normal, ABlock_ret, ABlock_exit, AScope_normal, AScope_ret, AScope_exit, RetK_ret, RetK_normal, retAV_one, retAV_two, retAV_three, retAV_nil, RG_nil, RG_op, RG_guard, gdR_tt, gdR_ff, gdR_tf, gdR_ft, gdR_un, RG_call, callQ_clo, contK_ap, opR_some, RD_nil, RD_op0, RD_op1, opD0_some, opD1_some, RD_call, callQD_clo, RD_guard, gdD_tt, gdD_ff, gdD_tf, gdD_ft, gdD_un, psh_nil, psh_cons, Apt_nil, Apt_nilT, Apt_true, Apt_false, Dis_def, runT_val, runT_rd, runT_wr, runT_new, runT_mv, ex, put_some, put_none, ev_t, ev_c, argF_zero, argF_succ, set_g, set_n, cells_v, cells_sl, cells_agg, cells_own, cells_ptr, cells_clo, cells_eptr, cells_mp, putc, exBslice, lfill, exField, exIdxV, exIdxP, exBox, exAlloc, exLoad, exStore, exFieldA, exIdxA, exLen, exPick, exUn, exBeq, exMM, exSeq, seqGo, exExt, binV, intOp, subc, AV.solid, S0, encI, encB, e8, e7, e0, e1]
        rw [wrap_in _ (by omega)]
        refine ⟨l.length - (i + 1), by omega, i + 1, by omega, rfl, ?_, ?_, ?_, ?_, fun k h hk => ?_⟩
        · simp [put_some, encI]
        · simp [put_some, e7]
        · simp [put_some, e0]
        · simp [put_some, e1]
        · by_cases hki : k = i
          · subst hki; exact hb
          · exact hq k h (by omega)
    · have hi2 : idxF p l = -1 := by
        have h1 : l.any p = false := by
          rw [List.any_eq_false]
          intro x hx
          obtain ⟨k, hk, rfl⟩ := List.mem_iff_getElem.mp hx
          rw [hq k hk (by omega)]; simp
        simp [idxF, h1]
      simp [AW_seq, AW_reg, AW_regD, AW_block, AW_cond, AW_skip, AW_exit, AW_ret, AW_scp, condR_true, condR_false, AThen_normal, AThen_ret, AThen_exit, ABlock_normal, ABlock_ret, ABlock_exit, AScope_normal, AScope_ret, AScope_exit, RetK_ret, RetK_normal, retAV_one, retAV_two, retAV_three, retAV_nil, RG_nil, RG_op, RG_guard, gdR_tt, gdR_ff, gdR_tf, gdR_ft, gdR_un, RG_call, callQ_clo, contK_ap, opR_some, RD_nil, RD_op0, RD_op1, opD0_some, opD1_some, RD_call, callQD_clo, RD_guard, gdD_tt, gdD_ff, gdD_tf, gdD_ft, gdD_un, psh_nil, psh_cons, Apt_nil, Apt_nilT, Apt_true, Apt_false, Dis_def, runT_val, runT_rd, runT_wr, runT_new, runT_mv, ex, put_some, put_none, ev_t, ev_c, argF_zero, argF_succ, set_g, set_n, cells_v, cells_sl, cells_agg, cells_own, cells_ptr, cells_clo, cells_eptr, cells_mp, putc, exBslice, lfill, exField, exIdxV, exIdxP, exBox, exAlloc, exLoad, exStore, exFieldA, exIdxA, exLen, exPick, exUn, exBeq, exMM, exSeq, seqGo, exExt, binV, intOp, subc, AV.solid, S0, encI, encB, e8, e7, e0, e1, hlt, hi2]
      exact FzK_I _ _
theorem verdict_Decides_1_body {P : Program} {fm : FuncId} (r : Rul) (l : List Int) (at_ : Int) (h : PureC P fm [encRul r, encIs l, encI at_] (encB (verM r l at_))) :
    AW P (c_verdict_Decides_1 fm) (RetK [4] (FzK (encB (verM r l at_)))) (argF [encRul r, .eptr (encIs l) 0, .eptr (encI at_) 0]) S0 := by
  have c := cl_cons (closed_Rul r) (cl_cons (closed_Is l) (cl_cons (closed_I at_) cl_nil))
  generalize verM r l at_ = b at *
  obtain ⟨cs, h1, h2, h3⟩ := encRul_cs r
  rw [h1] at h c ⊢
  have h4 : cs.take 11 = cs := List.take_of_length_le (by omega)
  simp only [encIs, encI] at h c
  simp [AW_seq, AW_reg, AW_regD, AW_block, AW_cond, AW_skip, AW_exit, AW_ret, AW_scp, condR_true, condR_false, AThen_normal, AThen_ret, AThen_exit, ABlock_normal, ABlock_ret, ABlock_exit, AScope_normal, AScope_ret, AScope_exit, RetK_ret, RetK_normal, retAV_one, retAV_two, retAV_three, retAV_nil, RG_nil, RG_op, RG_guard, gdR_tt, gdR_ff, gdR_tf, gdR_ft, gdR_un, RG_call, callQ_clo, contK_ap, opR_some, RD_nil, RD_op0, RD_op1, opD0_some, opD1_some, RD_call, callQD_clo, RD_guard, gdD_tt, gdD_ff, gdD_tf, gdD_ft, gdD_un, psh_nil, psh_cons, Apt_nil, Apt_nilT, Apt_true, Apt_false, Dis_def, runT_val, runT_rd, runT_wr, runT_new, runT_mv, ex, put_some, put_none, ev_t, ev_c, argF_zero, argF_succ, set_g, set_n, cells_v, cells_sl, cells_agg, cells_own, cells_ptr, cells_clo, cells_eptr, cells_mp, putc, exBslice, lfill, exField, exIdxV, exIdxP, exBox, exAlloc, exLoad, exStore, exFieldA, exIdxA, exLen, exPick, exUn, exBeq, exMM, exSeq, seqGo, exExt, binV, intOp, subc, AV.solid, S0, encI, encB, c_verdict_Decides_1, encIs, h2, h4]
  refine CallR.pure h c (closed_B _) ?_
  simp [AW_seq, AW_reg, AW_regD, AW_block, AW_cond, AW_skip, AW_exit, AW_ret, AW_scp, condR_true, condR_false, AThen_normal, AThen_ret, AThen_exit, ABlock_normal, ABlock_ret, ABlock_exit, AScope_normal, AScope_ret, AScope_exit, RetK_ret, RetK_normal, retAV_one, retAV_two, retAV_three, retAV_nil, RG_nil, RG_op, RG_guard, gdR_tt, gdR_ff, gdR_tf, gdR_ft, gdR_un, RG_call, callQ_clo, contK_ap, opR_some, RD_nil, RD_op0, RD_op1, opD0_some, opD1_some, RD_call, callQD_clo, RD_guard, gdD_tt, gdD_ff, gdD_tf, gdD_ft, gdD_un, psh_nil, psh_cons, Apt_nil, Apt_nilT, Apt_true, Apt_false, Dis_def, runT_val, runT_rd, runT_wr, runT_new, runT_mv, ex, put_some, put_none, ev_t, ev_c, argF_zero, argF_succ, set_g, set_n, cells_v, cells_sl, cells_agg, cells_own, cells_ptr, cells_clo, cells_eptr, cells_mp, putc, exBslice, lfill, exField, exIdxV, exIdxP, exBox, exAlloc, exLoad, exStore, exFieldA, exIdxA, exLen, exPick, exUn, exBeq, exMM, exSeq, seqGo, exExt, binV, intOp, subc, AV.solid, S0, encI, encB]
  exact FzK_B _ _
/-- A book: names, rules, what is allowed, names used. -/
structure Bk where
  vars : AV
  rules : List Rul
  allows : AV
  used : AV
structure BkOk (x : Bk) : Prop where
  v : Closed x.vars
  a : Closed x.allows
  u : Closed x.used
  vc : x.vars.cells = [x.vars]
  ac : x.allows.cells = [x.allows]
  uc : x.used.cells = [x.used]
def encBk (x : Bk) : AV := .agg [x.vars, .sl false (x.rules.map encRul), x.allows, x.used]
theorem closed_Ruls (l : List Rul) : Closed (.sl false (l.map encRul)) := closed_map closed_Rul l
theorem closed_Bk {x : Bk} (h : BkOk x) : Closed (encBk x) := .agg _ (by
  intro y hy
  simp only [List.mem_cons, List.not_mem_nil, or_false] at hy
  rcases hy with rfl | rfl | rfl | rfl
  · exact h.v
  · exact closed_Ruls _
  · exact h.a
  · exact h.u)
def decP (x : Bk) (l : List Int) (at_ : Int) : Int := if innerB l at_ = true then idxF (fun r => verM r l at_) x.rules else -1
theorem verdict_Decides_body {P : Program} {fi f1 fx : FuncId} (x : Bk) (ok : BkOk x) (l : List Int) (at_ : Int) (hi : PureC P fi [encIs l, encI at_] (encB (innerB l at_)))
    (hx : PureC P fx [.sl false (x.rules.map encRul), .clo f1 [] [.eptr (encIs l) 0, .eptr (encI at_) 0]] (encI (idxF (fun r => verM r l at_) x.rules))) :
    AW P (c_verdict_Decides fi f1 fx) (RetK [6] (FzK (encI (decP x l at_)))) (argF [encBk x, encIs l, encI at_]) S0 := by
  have c := cl_cons (closed_Is l) (cl_cons (closed_I at_) cl_nil)
  have hd : decP x l at_ = if innerB l at_ = true then idxF (fun r => verM r l at_) x.rules else -1 := rfl
  rw [hd]
  generalize idxF (fun r => verM r l at_) x.rules = z at *
  simp only [encIs, encI] at hi hx c
  have hv := ok.vc
  have ha := ok.ac
  have hu := ok.uc
  simp [AW_seq, AW_reg, AW_regD, AW_block, AW_cond, AW_skip, AW_exit, AW_ret, AW_scp, condR_true, condR_false, AThen_normal, AThen_ret, AThen_exit, ABlock_normal, ABlock_ret, ABlock_exit, AScope_normal, AScope_ret, AScope_exit, RetK_ret, RetK_normal, retAV_one, retAV_two, retAV_three, retAV_nil, RG_nil, RG_op, RG_guard, gdR_tt, gdR_ff, gdR_tf, gdR_ft, gdR_un, RG_call, callQ_clo, contK_ap, opR_some, RD_nil, RD_op0, RD_op1, opD0_some, opD1_some, RD_call, callQD_clo, RD_guard, gdD_tt, gdD_ff, gdD_tf, gdD_ft, gdD_un, psh_nil, psh_cons, Apt_nil, Apt_nilT, Apt_true, Apt_false, Dis_def, runT_val, runT_rd, runT_wr, runT_new, runT_mv, ex, put_some, put_none, ev_t, ev_c, argF_zero, argF_succ, set_g, set_n, cells_v, cells_sl, cells_agg, cells_own, cells_ptr, cells_clo, cells_eptr, cells_mp, putc, exBslice, lfill, exField, exIdxV, exIdxP, exBox, exAlloc, exLoad, exStore, exFieldA, exIdxA, exLen, exPick, exUn, exBeq, exMM, exSeq, seqGo, exExt, binV, intOp, subc, AV.solid, S0, encI, encB, c_verdict_Decides, encBk, encIs]
  refine CallR.pure hi c (closed_B _) ?_
  cases innerB l at_ with
  | false =>
    simp [AW_seq, AW_reg, AW_regD, AW_block, AW_cond, AW_skip, AW_exit, AW_ret, AW_scp, condR_true, condR_false, AThen_normal, AThen_ret, AThen_exit, ABlock_normal, ABlock_ret, ABlock_exit, AScope_normal, AScope_ret, AScope_exit, RetK_ret, RetK_normal, retAV_one, retAV_two, retAV_three, retAV_nil, RG_nil, RG_op, RG_guard, gdR_tt, gdR_ff, gdR_tf, gdR_ft, gdR_un, RG_call, callQ_clo, contK_ap, opR_some, RD_nil, RD_op0, RD_op1, opD0_some, opD1_some, RD_call, callQD_clo, RD_guard, gdD_tt, gdD_ff, gdD_tf, gdD_ft, gdD_un, psh_nil, psh_cons, Apt_nil, Apt_nilT, Apt_true, Apt_false, Dis_def, runT_val, runT_rd, runT_wr, runT_new, runT_mv, ex, put_some, put_none, ev_t, ev_c, argF_zero, argF_succ, set_g, set_n, cells_v, cells_sl, cells_agg, cells_own, cells_ptr, cells_clo, cells_eptr, cells_mp, putc, exBslice, lfill, exField, exIdxV, exIdxP, exBox, exAlloc, exLoad, exStore, exFieldA, exIdxA, exLen, exPick, exUn, exBeq, exMM, exSeq, seqGo, exExt, binV, intOp, subc, AV.solid, S0, encI, encB]
    exact FzK_I (-1) _
  | true =>
    simp [AW_seq, AW_reg, AW_regD, AW_block, AW_cond, AW_skip, AW_exit, AW_ret, AW_scp, condR_true, condR_false, AThen_normal, AThen_ret, AThen_exit, ABlock_normal, ABlock_ret, ABlock_exit, AScope_normal, AScope_ret, AScope_exit, RetK_ret, RetK_normal, retAV_one, retAV_two, retAV_three, retAV_nil, RG_nil, RG_op, RG_guard, gdR_tt, gdR_ff, gdR_tf, gdR_ft, gdR_un, RG_call, callQ_clo, contK_ap, opR_some, RD_nil, RD_op0, RD_op1, opD0_some, opD1_some, RD_call, callQD_clo, RD_guard, gdD_tt, gdD_ff, gdD_tf, gdD_ft, gdD_un, psh_nil, psh_cons, Apt_nil, Apt_nilT, Apt_true, Apt_false, Dis_def, runT_val, runT_rd, runT_wr, runT_new, runT_mv, ex, put_some, put_none, ev_t, ev_c, argF_zero, argF_succ, set_g, set_n, cells_v, cells_sl, cells_agg, cells_own, cells_ptr, cells_clo, cells_eptr, cells_mp, putc, exBslice, lfill, exField, exIdxV, exIdxP, exBox, exAlloc, exLoad, exStore, exFieldA, exIdxA, exLen, exPick, exUn, exBeq, exMM, exSeq, seqGo, exExt, binV, intOp, subc, AV.solid, S0, encI, encB, hv, ha, hu]
    refine CallR.looks hx (FzL.cons (.closed _ (closed_Ruls _)) (FzL.cons (.clo0 (FzL.cons (.box _ _ 1 (encIs l) _ ?_ (.closed _ (closed_Is l))) (FzL.cons (.box _ _ 1 (encI at_) _ ?_ (.closed _ (closed_I at_))) FzL.nil))) FzL.nil)) (.v _) ?_
    · simp [set_g, encIs]
    · simp [set_g, encI]
    · simp [AW_seq, AW_reg, AW_regD, AW_block, AW_cond, AW_skip, AW_exit, AW_ret, AW_scp, condR_true, condR_false, AThen_normal, AThen_ret, AThen_exit, ABlock_normal, ABlock_ret, ABlock_exit, AScope_normal, AScope_ret, AScope_exit, RetK_ret, RetK_normal, retAV_one, retAV_two, retAV_three, retAV_nil, RG_nil, RG_op, RG_guard, gdR_tt, gdR_ff, gdR_tf, gdR_ft, gdR_un, RG_call, callQ_clo, contK_ap, opR_some, RD_nil, RD_op0, RD_op1, opD0_some, opD1_some, RD_call, callQD_clo, RD_guard, gdD_tt, gdD_ff, gdD_tf, gdD_ft, gdD_un, psh_nil, psh_cons, Apt_nil, Apt_nilT, Apt_true, Apt_false, Dis_def, runT_val, runT_rd, runT_wr, runT_new, runT_mv, ex, put_some, put_none, ev_t, ev_c, argF_zero, argF_succ, set_g, set_n, cells_v, cells_sl, cells_agg, cells_own, cells_ptr, cells_clo, cells_eptr, cells_mp, putc, exBslice, lfill, exField, exIdxV, exIdxP, exBox, exAlloc, exLoad, exStore, exFieldA, exIdxA, exLen, exPick, exUn, exBeq, exMM, exSeq, seqGo, exExt, binV, intOp, subc, AV.solid, S0, encI, encB]
      exact FzK_I _ _
end Go.Rf


/- Own work: what is cut. -/
set_option linter.unusedVariables false
set_option linter.unusedSimpArgs false
namespace Go.Rf
open Go.RowKit

def c_verdict_Cut (f_verdict_Decides f_verdict_inner : FuncId) : AC :=
  (.seq (.reg none [
   ⟨(some 3), .box 4 (.t 0), none, none⟩,
   ⟨(some 6), .mv (.c (.v (.bool false))), none, none⟩])
  (.seq (.reg none [
   ⟨(some 8), .load (some 4) (.t 3), none, none⟩,
   ⟨(some 9), .mv (.t 1), none, none⟩,
   ⟨(some 10), .mv (.t 2), none, none⟩,
   ⟨(some 11), .mv (.c .junk), none, (some ((.c (.clo f_verdict_Decides [] [])), [(.t 8), (.t 9), (.t 10)]))⟩,
   ⟨(some 7), .mv (.t 11), none, none⟩])
  (.seq (.reg none [
   ⟨(some 12), .mv (.t 1), none, none⟩,
   ⟨(some 13), .mv (.t 2), none, none⟩,
   ⟨(some 14), .mv (.c .junk), none, (some ((.c (.clo f_verdict_inner [] [])), [(.t 12), (.t 13)]))⟩,
   ⟨(some 15), .mv (.t 14), none, none⟩,
   ⟨(some 16), .mv (.t 7), (some (15, true)), none⟩,
   ⟨(some 17), .bin .lss (.t 16) (.c (.v (.int .i64 0))), (some (15, true)), none⟩,
   ⟨(some 18), .mv (.t 17), (some (15, true)), none⟩,
   ⟨(some 19), .fieldA 1 (.t 3), (some (18, false)), none⟩,
   ⟨(some 20), .load none (.t 19), (some (18, false)), none⟩,
   ⟨(some 21), .mv (.t 7), (some (18, false)), none⟩,
   ⟨(some 22), .idxA 11 (.t 20) (.t 21), (some (18, false)), none⟩,
   ⟨(some 23), .fieldA 1 (.t 22), (some (18, false)), none⟩,
   ⟨(some 24), .load none (.t 23), (some (18, false)), none⟩,
   ⟨(some 25), .pick (.t 18) (.c (.v (.bool true))) (.t 24), (some (15, true)), none⟩,
   ⟨(some 26), .pick (.t 15) (.t 25) (.c (.v (.bool false))), none, none⟩,
   ⟨(some 6), .mv (.t 26), none, none⟩])
  .ret)))
def c_verdict_Cuts (f_verdict_Cut : FuncId) : AC :=
  (.seq (.reg none [
   ⟨(some 2), .box 4 (.t 0), none, none⟩,
   ⟨(some 4), .mv (.c (.sl true [])), none, none⟩])
  (.seq (.reg none [
   ⟨(some 5), .mv (.c (.sl true [])), none, none⟩])
  (.seq (.seq (.reg none [
   ⟨(some 7), .mv (.t 1), none, none⟩,
   ⟨(some 8), .len (.t 7), none, none⟩,
   ⟨(some 9), .mv (.c (.v (.int .i64 0))), none, none⟩])
  (.block 0 (.loop (.seq (.reg none [
     ⟨(some 10), .bin .lss (.t 9) (.t 8), none, none⟩])
    (.seq (.cond (.t 10) .skip (.exit 0))
    (.seq (.block 1 (.seq (.reg none [
      ⟨(some 11), .mv (.t 9), none, none⟩,
      ⟨(some 6), .mv (.t 11), none, none⟩])
     (.seq (.reg none [
      ⟨(some 12), .load (some 4) (.t 2), none, none⟩,
      ⟨(some 13), .mv (.t 1), none, none⟩,
      ⟨(some 14), .mv (.t 6), none, none⟩,
      ⟨(some 15), .mv (.c .junk), none, (some ((.c (.clo f_verdict_Cut [] [])), [(.t 12), (.t 13), (.t 14)]))⟩])
     (.cond (.t 15) (.reg none [
       ⟨(some 16), .mv (.t 5), none, none⟩,
       ⟨(some 17), .mv (.t 6), none, none⟩,
       ⟨(some 18), .bslice 1 1 (.v (.int .i64 0)) [(0, (.t 17))], none, none⟩,
       ⟨(some 19), .app 1 8 (.t 16) (.t 18), none, none⟩,
       ⟨(some 5), .mv (.t 19), none, none⟩]) .skip))))
    (.reg none [
     ⟨(some 20), .bin .add (.t 9) (.c (.v (.int .i64 1))), none, none⟩,
     ⟨(some 9), .mv (.t 20), none, none⟩])))))))
  (.seq (.reg none [
   ⟨(some 21), .mv (.t 5), none, none⟩,
   ⟨(some 4), .mv (.t 21), none, none⟩])
  .ret))))
theorem idxF_at {X : Type} {p : X → Bool} {l : List X} : idxF p l = -1 ∨ ∃ i : Nat, idxF p l = (i : Int) ∧ i < l.length := by
  unfold idxF
  by_cases h : l.any p = true
  · rw [if_pos h]
    obtain ⟨x, hx, hp⟩ := List.any_eq_true.mp h
    exact .inr ⟨_, rfl, List.findIdx_lt_length_of_exists ⟨x, hx, hp⟩⟩
  · rw [if_neg h]; exact .inl rfl
theorem decP_at (x : Bk) (l : List Int) (at_ : Int) : decP x l at_ = -1 ∨ ∃ i : Nat, decP x l at_ = (i : Int) ∧ i < x.rules.length := by
  unfold decP
  split
  · exact idxF_at
  · exact .inl rfl
def rcut (x : Bk) (i : Int) : Bool := match x.rules[i.toNat]? with | some r => r.cut | none => false
def cutB (x : Bk) (l : List Int) (at_ : Int) : Bool := innerB l at_ && (decide (decP x l at_ < 0) || rcut x (decP x l at_))
theorem Rul_cells (r : Rul) : ∃ rest : List AV, encRul r = .agg (encI r.num :: encB r.cut :: rest) ∧ rest.length = 9 := by
  refine ⟨(encPat r.before).cells ++ (encPat r.after).cells ++ [encI r.pos], by simp [encRul], by simp [encPat_cells]⟩
theorem verdict_Cut_body {P : Program} {fd fi : FuncId} (x : Bk) (ok : BkOk x) (l : List Int) (at_ : Int) (hd : PureC P fd [encBk x, encIs l, encI at_] (encI (decP x l at_))) (hi : PureC P fi [encIs l, encI at_] (encB (innerB l at_))) :
    AW P (c_verdict_Cut fd fi) (RetK [6] (FzK (encB (cutB x l at_)))) (argF [encBk x, encIs l, encI at_]) S0 := by
  have c := cl_cons (closed_Is l) (cl_cons (closed_I at_) cl_nil)
  have cb := cl_cons (closed_Bk ok) c
  have hv := ok.vc
  have ha := ok.ac
  have hu := ok.uc
  have hat := decP_at x l at_
  have hcut : cutB x l at_ = (innerB l at_ && (decide (decP x l at_ < 0) || rcut x (decP x l at_))) := rfl
  rw [hcut]
  generalize decP x l at_ = d at *
  simp only [encIs, encI, encBk] at hi hd c cb
  simp [AW_seq, AW_reg, AW_regD, AW_block, AW_cond, AW_skip, AW_exit, AW_ret, AW_scp, condR_true, condR_false, AThen_normal, AThen_ret, AThen_exit, ABlock_normal, ABlock_ret, ABlock_exit, AScope_normal, AScope_ret, AScope_exit, RetK_ret, RetK_normal, retAV_one, retAV_two, retAV_three, retAV_nil, RG_nil, RG_op, RG_guard, gdR_tt, gdR_ff, gdR_tf, gdR_ft, gdR_un, RG_call, callQ_clo, contK_ap, opR_some, RD_nil, RD_op0, RD_op1, opD0_some, opD1_some, RD_call, callQD_clo, RD_guard, gdD_tt, gdD_ff, gdD_tf, gdD_ft, gdD_un, psh_nil, psh_cons, Apt_nil, Apt_nilT, Apt_true, Apt_false, Dis_def, runT_val, runT_rd, runT_wr, runT_new, runT_mv, ex, put_some, put_none, ev_t, ev_c, argF_zero, argF_succ, set_g, set_n, cells_v, cells_sl, cells_agg, cells_own, cells_ptr, cells_clo, cells_eptr, cells_mp, putc, exBslice, lfill, exField, exIdxV, exIdxP, exBox, exAlloc, exLoad, exStore, exFieldA, exIdxA, exLen, exPick, exUn, exBeq, exMM, exSeq, seqGo, exExt, binV, intOp, subc, AV.solid, S0, encI, encB, c_verdict_Cut, encBk, encIs, hv, ha, hu]
  refine CallR.pure hd cb (closed_I _) ?_
  simp [AW_seq, AW_reg, AW_regD, AW_block, AW_cond, AW_skip, AW_exit, AW_ret, AW_scp, condR_true, condR_false, AThen_normal, AThen_ret, AThen_exit, ABlock_normal, ABlock_ret, ABlock_exit, AScope_normal, AScope_ret, AScope_exit, RetK_ret, RetK_normal, retAV_one, retAV_two, retAV_three, retAV_nil, RG_nil, RG_op, RG_guard, gdR_tt, gdR_ff, gdR_tf, gdR_ft, gdR_un, RG_call, callQ_clo, contK_ap, opR_some, RD_nil, RD_op0, RD_op1, opD0_some, opD1_some, RD_call, callQD_clo, RD_guard, gdD_tt, gdD_ff, gdD_tf, gdD_ft, gdD_un, psh_nil, psh_cons, Apt_nil, Apt_nilT, Apt_true, Apt_false, Dis_def, runT_val, runT_rd, runT_wr, runT_new, runT_mv, ex, put_some, put_none, ev_t, ev_c, argF_zero, argF_succ, set_g, set_n, cells_v, cells_sl, cells_agg, cells_own, cells_ptr, cells_clo, cells_eptr, cells_mp, putc, exBslice, lfill, exField, exIdxV, exIdxP, exBox, exAlloc, exLoad, exStore, exFieldA, exIdxA, exLen, exPick, exUn, exBeq, exMM, exSeq, seqGo, exExt, binV, intOp, subc, AV.solid, S0, encI, encB]
  refine CallR.pure hi c (closed_B _) ?_
  cases innerB l at_ with
  | false =>
    simp [AW_seq, AW_reg, AW_regD, AW_block, AW_cond, AW_skip, AW_exit, AW_ret, AW_scp, condR_true, condR_false, AThen_normal, AThen_ret, AThen_exit, ABlock_normal, ABlock_ret, ABlock_exit, AScope_normal, AScope_ret, AScope_exit, RetK_ret, RetK_normal, retAV_one, retAV_two, retAV_three, retAV_nil, RG_nil, RG_op, RG_guard, gdR_tt, gdR_ff, gdR_tf, gdR_ft, gdR_un, RG_call, callQ_clo, contK_ap, opR_some, RD_nil, RD_op0, RD_op1, opD0_some, opD1_some, RD_call, callQD_clo, RD_guard, gdD_tt, gdD_ff, gdD_tf, gdD_ft, gdD_un, psh_nil, psh_cons, Apt_nil, Apt_nilT, Apt_true, Apt_false, Dis_def, runT_val, runT_rd, runT_wr, runT_new, runT_mv, ex, put_some, put_none, ev_t, ev_c, argF_zero, argF_succ, set_g, set_n, cells_v, cells_sl, cells_agg, cells_own, cells_ptr, cells_clo, cells_eptr, cells_mp, putc, exBslice, lfill, exField, exIdxV, exIdxP, exBox, exAlloc, exLoad, exStore, exFieldA, exIdxA, exLen, exPick, exUn, exBeq, exMM, exSeq, seqGo, exExt, binV, intOp, subc, AV.solid, S0, encI, encB]
    exact FzK_B false _
  | true =>
    rcases hat with rfl | ⟨i, rfl, hlt⟩
    · simp [AW_seq, AW_reg, AW_regD, AW_block, AW_cond, AW_skip, AW_exit, AW_ret, AW_scp, condR_true, condR_false, AThen_normal, AThen_ret, AThen_exit, ABlock_normal, ABlock_ret, ABlock_exit, AScope_normal, AScope_ret, AScope_exit, RetK_ret, RetK_normal, retAV_one, retAV_two, retAV_three, retAV_nil, RG_nil, RG_op, RG_guard, gdR_tt, gdR_ff, gdR_tf, gdR_ft, gdR_un, RG_call, callQ_clo, contK_ap, opR_some, RD_nil, RD_op0, RD_op1, opD0_some, opD1_some, RD_call, callQD_clo, RD_guard, gdD_tt, gdD_ff, gdD_tf, gdD_ft, gdD_un, psh_nil, psh_cons, Apt_nil, Apt_nilT, Apt_true, Apt_false, Dis_def, runT_val, runT_rd, runT_wr, runT_new, runT_mv, ex, put_some, put_none, ev_t, ev_c, argF_zero, argF_succ, set_g, set_n, cells_v, cells_sl, cells_agg, cells_own, cells_ptr, cells_clo, cells_eptr, cells_mp, putc, exBslice, lfill, exField, exIdxV, exIdxP, exBox, exAlloc, exLoad, exStore, exFieldA, exIdxA, exLen, exPick, exUn, exBeq, exMM, exSeq, seqGo, exExt, binV, intOp, subc, AV.solid, S0, encI, encB, hv, ha, hu]
      exact FzK_B true _
    · have hg : x.rules[i]? = some x.rules[i] := List.getElem?_eq_getElem hlt
      have hnn : ¬ ((i : Int) < 0) := by omega
      have hr : rcut x (i : Int) = (x.rules[i]).cut := by unfold rcut; rw [Int.toNat_natCast, hg]
      obtain ⟨rest, h1, h2⟩ := Rul_cells x.rules[i]
      rw [hr]
      simp [AW_seq, AW_reg, AW_regD, AW_block, AW_cond, AW_skip, AW_exit, AW_ret, AW_scp, condR_true, condR_false, AThen_normal, AThen_ret, AThen_exit, ABlock_normal, ABlock_ret, ABlock_exit, AScope_normal, AScope_ret, AScope_exit, RetK_ret, RetK_normal, retAV_one, retAV_two, retAV_three, retAV_nil, RG_nil, RG_op, RG_guard, gdR_tt, gdR_ff, gdR_tf, gdR_ft, gdR_un, RG_call, callQ_clo, contK_ap, opR_some, RD_nil, RD_op0, RD_op1, opD0_some, opD1_some, RD_call, callQD_clo, RD_guard, gdD_tt, gdD_ff, gdD_tf, gdD_ft, gdD_un, psh_nil, psh_cons, Apt_nil, Apt_nilT, Apt_true, Apt_false, Dis_def, runT_val, runT_rd, runT_wr, runT_new, runT_mv, ex, put_some, put_none, ev_t, ev_c, argF_zero, argF_succ, set_g, set_n, cells_v, cells_sl, cells_agg, cells_own, cells_ptr, cells_clo, cells_eptr, cells_mp, putc, exBslice, lfill, exField, exIdxV, exIdxP, exBox, exAlloc, exLoad, exStore, exFieldA, exIdxA, exLen, exPick, exUn, exBeq, exMM, exSeq, seqGo, exExt, binV, intOp, subc, AV.solid, S0, encI, encB, hv, ha, hu, hg, hlt, hnn, h1, h2]

      exact FzK_B _ _
def cutsP (x : Bk) (l : List Int) (k : Nat) : List Int := ((List.range k).filter fun i : Nat => cutB x l (i : Int)).map Int.ofNat
theorem cutsP_succ (x : Bk) (l : List Int) (k : Nat) : cutsP x l (k + 1) = cutsP x l k ++ (if cutB x l (k : Int) = true then [(k : Int)] else []) := by
  unfold cutsP
  rw [List.range_succ, List.filter_append, List.map_append]
  congr 1
  by_cases h : cutB x l (k : Int) = true <;> simp [h]
theorem cutsP_len (x : Bk) (l : List Int) (k : Nat) : (cutsP x l k).length ≤ k := by
  unfold cutsP
  rw [List.length_map]
  have := List.length_filter_le (fun i : Nat => cutB x l (i : Int)) (List.range k)
  simpa using this
def cuI (x : Bk) (l : List Int) (k : Nat) (f : AF) (S : St) : Prop := f 1 = encIs l ∧ f 2 = .ptr 0 0 0 ∧ f 8 = encI l.length ∧ f 9 = encI k ∧ S.g 0 = some (.arr 4 [encBk x]) ∧ Vec S.g (f 5) 1 ((cutsP x l k).map encI) ∧ 0 ∉ (f 5).ids ∧ 1 ≤ S.n
theorem verdict_Cuts_body {P : Program} {fc : FuncId} (x : Bk) (ok : BkOk x) (l : List Int) (hl : l.length ≤ 1000000) (hc : ∀ i : Int, PureC P fc [encBk x, encIs l, encI i] (encB (cutB x l i))) :
    AW P (c_verdict_Cuts fc) (RetK [4] (FzK (encIs (cutsP x l l.length)))) (argF [encBk x, encIs l]) S0 := by
  have hv := ok.vc
  have ha := ok.ac
  have hu := ok.uc
  simp [AW_seq, AW_reg, AW_regD, AW_block, AW_cond, AW_skip, AW_exit, AW_ret, AW_scp, condR_true, condR_false, AThen_normal, AThen_ret, AThen_exit, ABlock_normal, ABlock_ret, ABlock_exit, AScope_normal, AScope_ret, AScope_exit, RetK_ret, RetK_normal, retAV_one, retAV_two, retAV_three, retAV_nil, RG_nil, RG_op, RG_guard, gdR_tt, gdR_ff, gdR_tf, gdR_ft, gdR_un, RG_call, callQ_clo, contK_ap, opR_some, RD_nil, RD_op0, RD_op1, opD0_some, opD1_some, RD_call, callQD_clo, RD_guard, gdD_tt, gdD_ff, gdD_tf, gdD_ft, gdD_un, psh_nil, psh_cons, Apt_nil, Apt_nilT, Apt_true, Apt_false, Dis_def, runT_val, runT_rd, runT_wr, runT_new, runT_mv, ex, put_some, put_none, ev_t, ev_c, argF_zero, argF_succ, set_g, set_n, cells_v, cells_sl, cells_agg, cells_own, cells_ptr, cells_clo, cells_eptr, cells_mp, putc, exBslice, lfill, exField, exIdxV, exIdxP, exBox, exAlloc, exLoad, exStore, exFieldA, exIdxA, exLen, exPick, exUn, exBeq, exMM, exSeq, seqGo, exExt, binV, intOp, subc, AV.solid, S0, encI, encB, c_verdict_Cuts, encBk, encIs]
  refine AW_for l.length (cuI x l) ?_ ?_
  · refine ⟨?_, ?_, ?_, ?_, ?_, ?_, ?_, ?_⟩
    · simp [put_some, argF_zero, argF_succ, encIs]
    · simp [put_some]
    · simp [put_some, encI]
    · simp [put_some, encI]
    · simp [set_g, encBk]
    · simp [put_some, cutsP]; exact .nil
    · simp [put_some, AV.ids]
    · simp
  · rintro k f S hk' ⟨e1, e2, e8, e9, g0, hvec, hout, hn⟩
    have g0' := g0
    simp only [encBk] at g0
    have hlen := cutsP_len x l k
    by_cases hlt : k < l.length
    · have kc := hc (k : Int)
      have cc := cl_cons (closed_Bk ok) (cl_cons (closed_Is l) (cl_cons (closed_I (k : Int)) cl_nil))
      simp only [encBk, encIs, encI] at kc cc
      have hsucc := cutsP_succ x l k
      simp [AW_seq, AW_reg, AW_regD, AW_block, AW_cond, AW_skip, AW_exit, AW_ret, AW_scp, condR_true, condR_false, AThen_normal, AThen_ret, AThen_exit, ABlock_normal, ABlock_ret, ABlock_exit, AScope_normal, AScope_ret, AScope_exit, RetK_ret, RetK_normal, retAV_one, retAV_two, retAV_three, retAV_nil, RG_nil, RG_op, RG_guard, gdR_tt, gdR_ff, gdR_tf, gdR_ft, gdR_un, RG_call, callQ_clo, contK_ap, opR_some, RD_nil, RD_op0, RD_op1, opD0_some, opD1_some, RD_call, callQD_clo, RD_guard, gdD_tt, gdD_ff, gdD_tf, gdD_ft, gdD_un, psh_nil, psh_cons, Apt_nil, Apt_nilT, Apt_true, Apt_false, Dis_def, runT_val, runT_rd, runT_wr, runT_new, runT_mv, ex, put_some, put_none, ev_t, ev_c, argF_zero, argF_succ, set_g, set_n, cells_v, cells_sl, cells_agg, cells_own, cells_ptr, cells_clo, cells_eptr, cells_mp, putc, exBslice, lfill, exField, exIdxV, exIdxP, exBox, exAlloc, exLoad, exStore, exFieldA, exIdxA, exLen, exPick, exUn, exBeq, exMM, exSeq, seqGo, exExt, binV, intOp, subc, AV.solid, S0, encI, encB, e1, e2, e8, e9, g0, hlt, encIs, hv, ha, hu]
      refine CallR.pure kc cc (closed_B _) ?_
      cases hb : cutB x l (k : Int) with
      | false =>
        rw [hb, if_neg (by simp), List.append_nil] at hsucc
        simp [AW_seq, AW_reg, AW_regD, AW_block, AW_cond, AW_skip, AW_exit, AW_ret, AW_scp, condR_true, condR_false, AThen_normal, AThen_ret, AThen_exit, ABlock_normal, ABlock_ret, ABlock_exit, AScope_normal, AScope_ret, AScope_exit, RetK_ret, RetK_normal, retAV_one, retAV_two, retAV_three, retAV_nil, RG_nil, RG_op, RG_guard, gdR_tt, gdR_ff, gdR_tf, gdR_ft, gdR_un, RG_call, callQ_clo, contK_ap, opR_some, RD_nil, RD_op0, RD_op1, opD0_some, opD1_some, RD_call, callQD_clo, RD_guard, gdD_tt, gdD_ff, gdD_tf, gdD_ft, gdD_un, psh_nil, psh_cons, Apt_nil, Apt_nilT, Apt_true, Apt_false, Dis_def, runT_val, runT_rd, runT_wr, runT_new, runT_mv, ex, put_some, put_none, ev_t, ev_c, argF_zero, argF_succ, set_g, set_n, cells_v, cells_sl, cells_agg, cells_own, cells_ptr, cells_clo, cells_eptr, cells_mp, putc, exBslice, lfill, exField, exIdxV, exIdxP, exBox, exAlloc, exLoad, exStore, exFieldA, exIdxA, exLen, exPick, exUn, exBeq, exMM, exSeq, seqGo, exExt, binV, intOp, subc, AV.solid, S0, encI, encB, e1, e2, e8, e9]
        rw [wrap_in _ (by omega)]
        refine ⟨hlt, ?_, ?_, ?_, ?_, g0', ?_, ?_, ?_⟩
        · simp [put_some, e1, encIs]
        · simp [put_some, e2]
        · simp [put_some, e8, encI]
        · simp [put_some, encI]
        · rw [hsucc]; simp [put_some]; exact hvec.frame (fun _ _ => rfl)
        · simpa [put_some] using hout
        · simp
      | true =>
        rw [hb, if_pos rfl] at hsucc
        simp [AW_seq, AW_reg, AW_regD, AW_block, AW_cond, AW_skip, AW_exit, AW_ret, AW_scp, condR_true, condR_false, AThen_normal, AThen_ret, AThen_exit, ABlock_normal, ABlock_ret, ABlock_exit, AScope_normal, AScope_ret, AScope_exit, RetK_ret, RetK_normal, retAV_one, retAV_two, retAV_three, retAV_nil, RG_nil, RG_op, RG_guard, gdR_tt, gdR_ff, gdR_tf, gdR_ft, gdR_un, RG_call, callQ_clo, contK_ap, opR_some, RD_nil, RD_op0, RD_op1, opD0_some, opD1_some, RD_call, callQD_clo, RD_guard, gdD_tt, gdD_ff, gdD_tf, gdD_ft, gdD_un, psh_nil, psh_cons, Apt_nil, Apt_nilT, Apt_true, Apt_false, Dis_def, runT_val, runT_rd, runT_wr, runT_new, runT_mv, ex, put_some, put_none, ev_t, ev_c, argF_zero, argF_succ, set_g, set_n, cells_v, cells_sl, cells_agg, cells_own, cells_ptr, cells_clo, cells_eptr, cells_mp, putc, exBslice, lfill, exField, exIdxV, exIdxP, exBox, exAlloc, exLoad, exStore, exFieldA, exIdxA, exLen, exPick, exUn, exBeq, exMM, exSeq, seqGo, exExt, binV, intOp, subc, AV.solid, S0, encI, encB, e1, e2, e8, e9]
        rw [Vec.app (xs := (cutsP x l k).map encI) (hvec.frame (fun i hi => rfl)) (cells_I _) (by simp [AV.cells]) (appOk8 (by rw [List.length_map]; omega))]
        simp [AW_seq, AW_reg, AW_regD, AW_block, AW_cond, AW_skip, AW_exit, AW_ret, AW_scp, condR_true, condR_false, AThen_normal, AThen_ret, AThen_exit, ABlock_normal, ABlock_ret, ABlock_exit, AScope_normal, AScope_ret, AScope_exit, RetK_ret, RetK_normal, retAV_one, retAV_two, retAV_three, retAV_nil, RG_nil, RG_op, RG_guard, gdR_tt, gdR_ff, gdR_tf, gdR_ft, gdR_un, RG_call, callQ_clo, contK_ap, opR_some, RD_nil, RD_op0, RD_op1, opD0_some, opD1_some, RD_call, callQD_clo, RD_guard, gdD_tt, gdD_ff, gdD_tf, gdD_ft, gdD_un, psh_nil, psh_cons, Apt_nil, Apt_nilT, Apt_true, Apt_false, Dis_def, runT_val, runT_rd, runT_wr, runT_new, runT_mv, ex, put_some, put_none, ev_t, ev_c, argF_zero, argF_succ, set_g, set_n, cells_v, cells_sl, cells_agg, cells_own, cells_ptr, cells_clo, cells_eptr, cells_mp, putc, exBslice, lfill, exField, exIdxV, exIdxP, exBox, exAlloc, exLoad, exStore, exFieldA, exIdxA, exLen, exPick, exUn, exBeq, exMM, exSeq, seqGo, exExt, binV, intOp, subc, AV.solid, S0, encI, encB, e1, e2, e8, e9, without_n]
        rw [wrap_in _ (by omega)]
        refine ⟨hlt, ?_, ?_, ?_, ?_, ?_, ?_, ?_, ?_⟩
        · simp [put_some, e1, encIs]
        · simp [put_some, e2]
        · simp [put_some, e8, encI]
        · simp [put_some, encI]
        · rw [set_g, if_neg (by omega), without_g _ hout]; exact g0'
        · rw [hsucc, List.map_append]
          simp only [put_some, if_true]
          exact .mk' (by simp [set_g, encI]) (by simp [Nat.add_assoc])
        · simp [put_some, AV.ids]
        · simp
    · have hke : k = l.length := by omega
      subst hke
      simp [AW_seq, AW_reg, AW_regD, AW_block, AW_cond, AW_skip, AW_exit, AW_ret, AW_scp, condR_true, condR_false, AThen_normal, AThen_ret, AThen_exit, ABlock_normal, ABlock_ret, ABlock_exit, AScope_normal, AScope_ret, AScope_exit, RetK_ret, RetK_normal, retAV_one, retAV_two, retAV_three, retAV_nil, RG_nil, RG_op, RG_guard, gdR_tt, gdR_ff, gdR_tf, gdR_ft, gdR_un, RG_call, callQ_clo, contK_ap, opR_some, RD_nil, RD_op0, RD_op1, opD0_some, opD1_some, RD_call, callQD_clo, RD_guard, gdD_tt, gdD_ff, gdD_tf, gdD_ft, gdD_un, psh_nil, psh_cons, Apt_nil, Apt_nilT, Apt_true, Apt_false, Dis_def, runT_val, runT_rd, runT_wr, runT_new, runT_mv, ex, put_some, put_none, ev_t, ev_c, argF_zero, argF_succ, set_g, set_n, cells_v, cells_sl, cells_agg, cells_own, cells_ptr, cells_clo, cells_eptr, cells_mp, putc, exBslice, lfill, exField, exIdxV, exIdxP, exBox, exAlloc, exLoad, exStore, exFieldA, exIdxA, exLen, exPick, exUn, exBeq, exMM, exSeq, seqGo, exExt, binV, intOp, subc, AV.solid, S0, encI, encB, e1, e2, e8, e9, hlt]
      exact hvec.fz closed_I
end Go.Rf

