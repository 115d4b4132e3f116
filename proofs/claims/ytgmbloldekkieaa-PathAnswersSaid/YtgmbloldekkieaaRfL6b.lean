import Derived.Test.YtgmbloldekkieaaRfL6
set_option linter.unusedVariables false
set_option linter.unusedSimpArgs false
namespace Go.Rf
def nearQ (far : List Int) (i : Nat) (t : Int) : Bool := decide (0 ≤ rd far t.toNat) && (rd far t.toNat == rd far i - 1)
structure PfSt (d : Det) (far : List Int) (i : Nat) (f : AF) (S : St) : Prop where
  e4 : f 4 = encI i
  e3 : f 3 = encIs far
  e1 : f 1 = .ptr 0 0 0
  g0 : S.g 0 = some (.arr 3 [encDet d])
def pfJ (d : Det) (far : List Int) (i : Nat) (row : List Int) (m : Nat) (f : AF) (S : St) : Prop :=
  ∃ s, s ≤ row.length ∧ m = row.length - s ∧ f 6 = encI s ∧ f 5 = encB ((row.take s).any (nearQ far i)) ∧ PfSt d far i f S
def pfI (d : Det) (far : List Int) (m : Nat) (f : AF) (S : St) : Prop := ∃ i : Nat, i ≤ far.length ∧ m = far.length - i ∧ PfSt d far i f S
section
variable {P : Program} {d : Det} {far : List Int}
theorem pf_in (R : RightD d) (fo : FarOk ⟨d.next, d.fin⟩ far) {i : Nat} {row : List Int} (hi : d.next[i]? = some row) {f : AF} {S : St} {Q : Exit → AF → St → Prop} (h0 : pfJ d far i row row.length f S)
    (hq : ∀ f' S', f' 5 = encB (row.any (nearQ far i)) → PfSt d far i f' S' → Q .normal f' S') : AW P c_pf_in Q f S := by
  obtain ⟨hil, hie⟩ := List.getElem?_eq_some_iff.mp hi
  have hfl : far.length = d.next.length := fo.len
  have hn2 := R.n2
  have hif : i < far.length := by omega
  have hiI : (i : Int) < far.length := by omega
  have hgi : far[i]? = some far[i] := List.getElem?_eq_getElem hif
  have hri := rd_get hif
  have hvi := fo.val i hil
  have hli := fo.lt i hil
  have hgn : (Gr.mk d.next d.fin).n = d.next.length := rfl
  have hsg : (row.length : Int) = d.signs := by have := R.row i hil; rw [hie] at this; exact this
  have hs2 := R.s2
  simp [AW_seq, AW_reg, AW_regD, AW_block, AW_cond, AW_skip, AW_exit, AW_ret, AW_scp, condR_true, condR_false, AThen_normal, AThen_ret, AThen_exit, ABlock_normal, ABlock_ret, ABlock_exit, AScope_normal, AScope_ret, AScope_exit, RetK_ret, RetK_normal, retAV_one, retAV_two, retAV_three, retAV_nil, RG_nil, RG_op, RG_guard, gdR_tt, gdR_ff, gdR_tf, gdR_ft, gdR_un, RG_call, callQ_clo, contK_ap, opR_some, RD_nil, RD_op0, RD_op1, opD0_some, opD1_some, RD_call, callQD_clo, RD_guard, gdD_tt, gdD_ff, gdD_tf, gdD_ft, gdD_un, psh_nil, psh_cons, Apt_nil, Apt_nilT, Apt_true, Apt_false, Dis_def, runT_val, runT_rd, runT_wr, runT_new, runT_mv, ex, put_some, put_none, ev_t, ev_c, argF_zero, argF_succ, set_g, set_n, cells_v, cells_sl, cells_agg, cells_own, cells_ptr, cells_clo, cells_eptr, cells_mp, putc, exBslice, lfill, exField, exIdxV, exIdxP, exBox, exAlloc, exLoad, exStore, exFieldA, exIdxA, exLen, exPick, exUn, exBeq, exMM, exSeq, seqGo, exExt, binV, intOp, subc, AV.solid, S0, encI, encB, c_pf_in]
  refine AW_loop (pfJ d far i row) row.length h0 ?_
  rintro m f S ⟨s, hs, rfl, e6, e5, ⟨e4, e3, e1, g0⟩⟩
  by_cases hlt : s < row.length
  · have hsI : (s : Int) < d.signs := by omega
    have hgs : row[s]? = some row[s] := List.getElem?_eq_getElem hlt
    have hb : 0 ≤ row[s] ∧ row[s] < d.next.length := by
      have := R.at_ i hil s (by rw [hie]; exact hlt)
      simp only [hie] at this; exact this
    have htf : (row[s]).toNat < far.length := by omega
    have hgt : far[(row[s]).toNat]? = some far[(row[s]).toNat] := List.getElem?_eq_getElem htf
    have hrt := rd_get htf
    have hbI : row[s] < far.length := by omega
    have hsuc : (0 : Int) ≤ far[(row[s]).toNat] → (0 : Int) ≤ far[i] ∧ far[i] ≤ far[(row[s]).toNat] + 1 := by
      intro h
      have := fo.suc i (row[s]).toNat hil (by show _ < d.next.length; omega) ⟨row, hi, by rw [Int.toNat_of_nonneg hb.1]; exact List.getElem_mem hlt⟩ (by omega)
      omega
    have hlt2 := fo.lt (row[s]).toNat (by show _ < d.next.length; omega)
    have hv2 := fo.val (row[s]).toNat (by show _ < d.next.length; omega)
    have w1 : IntKind.i64.wrap (far[i] - 1) = far[i] - 1 := wrap_in _ (by omega)
    have w2 : IntKind.i64.wrap (far[(row[s]).toNat] + 1) = far[(row[s]).toNat] + 1 := wrap_in _ (by omega)
    have w3 : IntKind.i64.wrap ((s : Int) + 1) = (s : Int) + 1 := wrap_in _ (by omega)
    have hany := any_take_succ row (nearQ far i) s hlt
    have fin : ∀ (f' : AF) (S' : St), f' 6 = encI ((s : Int) + 1) → f' 5 = encB ((row.take s).any (nearQ far i) || nearQ far i row[s]) → PfSt d far i f' S' → INext (pfJ d far i row) (row.length - s) f' S' := by
      intro f' S' k6 k5 kst
      exact ⟨row.length - (s + 1), by omega, s + 1, by omega, rfl, by rw [k6]; simp [encI], by rw [k5, hany], kst⟩
    by_cases hk : (0 : Int) ≤ far[(row[s]).toNat]
    · obtain ⟨k1, k2⟩ := hsuc hk
      have k1' : ¬ far[i] < 0 := by omega
      have k2' : ¬ far[(row[s]).toNat] + 1 < far[i] := by omega
      by_cases hq1 : far[(row[s]).toNat] = far[i] - 1
      · have hnq : nearQ far i row[s] = true := by unfold nearQ; rw [← hrt, ← hri]; simp [hq1]; omega
        have hqb : (far[(row[s]).toNat] == far[i] - 1) = true := by simp [hq1]
        cases hb5 : (row.take s).any (nearQ far i) <;>
        · rw [hb5] at e5
          simp [AW_seq, AW_reg, AW_regD, AW_block, AW_cond, AW_skip, AW_exit, AW_ret, AW_scp, condR_true, condR_false, AThen_normal, AThen_ret, AThen_exit, ABlock_normal, ABlock_ret, ABlock_exit, AScope_normal, AScope_ret, AScope_exit, RetK_ret, RetK_normal, retAV_one, retAV_two, retAV_three, retAV_nil, RG_nil, RG_op, RG_guard, gdR_tt, gdR_ff, gdR_tf, gdR_ft, gdR_un, RG_call, callQ_clo, contK_ap, opR_some, RD_nil, RD_op0, RD_op1, opD0_some, opD1_some, RD_call, callQD_clo, RD_guard, gdD_tt, gdD_ff, gdD_tf, gdD_ft, gdD_un, psh_nil, psh_cons, Apt_nil, Apt_nilT, Apt_true, Apt_false, Dis_def, runT_val, runT_rd, runT_wr, runT_new, runT_mv, ex, put_some, put_none, ev_t, ev_c, argF_zero, argF_succ, set_g, set_n, cells_v, cells_sl, cells_agg, cells_own, cells_ptr, cells_clo, cells_eptr, cells_mp, putc, exBslice, lfill, exField, exIdxV, exIdxP, exBox, exAlloc, exLoad, exStore, exFieldA, exIdxA, exLen, exPick, exUn, exBeq, exMM, exSeq, seqGo, exExt, binV, intOp, subc, AV.solid, S0, encI, encB, e6, e5, e4, e3, e1, g0, encDet, encIss, encBs, encIs, hsI, hgs, hi, hb.1, hb.2, hbI, hgt, hiI, hgi, hk, k1, k1', k2, k2', w1, w2, w3, hqb]
          refine fin _ _ ?_ ?_ ⟨?_, ?_, ?_, ?_⟩
          · simp [put_some, encI]
          · simp [put_some, encB, hb5, hnq]
          · simp [put_some, e4, encI]
          · simp [put_some, e3, encIs]
          · simp [put_some, e1]
          · simpa [encDet, encIss, encBs, encIs] using g0
      · have hnq : nearQ far i row[s] = false := by unfold nearQ; rw [← hrt, ← hri]; simp [hq1]
        have hqb : (far[(row[s]).toNat] == far[i] - 1) = false := by simp [hq1]
        cases hb5 : (row.take s).any (nearQ far i) <;>
        · rw [hb5] at e5
          simp [AW_seq, AW_reg, AW_regD, AW_block, AW_cond, AW_skip, AW_exit, AW_ret, AW_scp, condR_true, condR_false, AThen_normal, AThen_ret, AThen_exit, ABlock_normal, ABlock_ret, ABlock_exit, AScope_normal, AScope_ret, AScope_exit, RetK_ret, RetK_normal, retAV_one, retAV_two, retAV_three, retAV_nil, RG_nil, RG_op, RG_guard, gdR_tt, gdR_ff, gdR_tf, gdR_ft, gdR_un, RG_call, callQ_clo, contK_ap, opR_some, RD_nil, RD_op0, RD_op1, opD0_some, opD1_some, RD_call, callQD_clo, RD_guard, gdD_tt, gdD_ff, gdD_tf, gdD_ft, gdD_un, psh_nil, psh_cons, Apt_nil, Apt_nilT, Apt_true, Apt_false, Dis_def, runT_val, runT_rd, runT_wr, runT_new, runT_mv, ex, put_some, put_none, ev_t, ev_c, argF_zero, argF_succ, set_g, set_n, cells_v, cells_sl, cells_agg, cells_own, cells_ptr, cells_clo, cells_eptr, cells_mp, putc, exBslice, lfill, exField, exIdxV, exIdxP, exBox, exAlloc, exLoad, exStore, exFieldA, exIdxA, exLen, exPick, exUn, exBeq, exMM, exSeq, seqGo, exExt, binV, intOp, subc, AV.solid, S0, encI, encB, e6, e5, e4, e3, e1, g0, encDet, encIss, encBs, encIs, hsI, hgs, hi, hb.1, hb.2, hbI, hgt, hiI, hgi, hk, k1, k1', k2, k2', w1, w2, w3, hqb]
          refine fin _ _ ?_ ?_ ⟨?_, ?_, ?_, ?_⟩
          · simp [put_some, encI]
          · simp [put_some, encB, hb5, hnq]
          · simp [put_some, e4, encI]
          · simp [put_some, e3, encIs]
          · simp [put_some, e1]
          · simpa [encDet, encIss, encBs, encIs] using g0
    · have hnq : nearQ far i row[s] = false := by unfold nearQ; rw [← hrt, ← hri]; simp; omega
      cases hb5 : (row.take s).any (nearQ far i) <;>
      · rw [hb5] at e5
        simp [AW_seq, AW_reg, AW_regD, AW_block, AW_cond, AW_skip, AW_exit, AW_ret, AW_scp, condR_true, condR_false, AThen_normal, AThen_ret, AThen_exit, ABlock_normal, ABlock_ret, ABlock_exit, AScope_normal, AScope_ret, AScope_exit, RetK_ret, RetK_normal, retAV_one, retAV_two, retAV_three, retAV_nil, RG_nil, RG_op, RG_guard, gdR_tt, gdR_ff, gdR_tf, gdR_ft, gdR_un, RG_call, callQ_clo, contK_ap, opR_some, RD_nil, RD_op0, RD_op1, opD0_some, opD1_some, RD_call, callQD_clo, RD_guard, gdD_tt, gdD_ff, gdD_tf, gdD_ft, gdD_un, psh_nil, psh_cons, Apt_nil, Apt_nilT, Apt_true, Apt_false, Dis_def, runT_val, runT_rd, runT_wr, runT_new, runT_mv, ex, put_some, put_none, ev_t, ev_c, argF_zero, argF_succ, set_g, set_n, cells_v, cells_sl, cells_agg, cells_own, cells_ptr, cells_clo, cells_eptr, cells_mp, putc, exBslice, lfill, exField, exIdxV, exIdxP, exBox, exAlloc, exLoad, exStore, exFieldA, exIdxA, exLen, exPick, exUn, exBeq, exMM, exSeq, seqGo, exExt, binV, intOp, subc, AV.solid, S0, encI, encB, e6, e5, e4, e3, e1, g0, encDet, encIss, encBs, encIs, hsI, hgs, hi, hb.1, hb.2, hbI, hgt, hiI, hgi, hk, w1, w2, w3]
        refine fin _ _ ?_ ?_ ⟨?_, ?_, ?_, ?_⟩
        · simp [put_some, encI]
        · simp [put_some, encB, hb5, hnq]
        · simp [put_some, e4, encI]
        · simp [put_some, e3, encIs]
        · simp [put_some, e1]
        · simpa [encDet, encIss, encBs, encIs] using g0
  · have hsI : ¬ (s : Int) < d.signs := by omega
    have : s = row.length := by omega
    subst this
    simp [AW_seq, AW_reg, AW_regD, AW_block, AW_cond, AW_skip, AW_exit, AW_ret, AW_scp, condR_true, condR_false, AThen_normal, AThen_ret, AThen_exit, ABlock_normal, ABlock_ret, ABlock_exit, AScope_normal, AScope_ret, AScope_exit, RetK_ret, RetK_normal, retAV_one, retAV_two, retAV_three, retAV_nil, RG_nil, RG_op, RG_guard, gdR_tt, gdR_ff, gdR_tf, gdR_ft, gdR_un, RG_call, callQ_clo, contK_ap, opR_some, RD_nil, RD_op0, RD_op1, opD0_some, opD1_some, RD_call, callQD_clo, RD_guard, gdD_tt, gdD_ff, gdD_tf, gdD_ft, gdD_un, psh_nil, psh_cons, Apt_nil, Apt_nilT, Apt_true, Apt_false, Dis_def, runT_val, runT_rd, runT_wr, runT_new, runT_mv, ex, put_some, put_none, ev_t, ev_c, argF_zero, argF_succ, set_g, set_n, cells_v, cells_sl, cells_agg, cells_own, cells_ptr, cells_clo, cells_eptr, cells_mp, putc, exBslice, lfill, exField, exIdxV, exIdxP, exBox, exAlloc, exLoad, exStore, exFieldA, exIdxA, exLen, exPick, exUn, exBeq, exMM, exSeq, seqGo, exExt, binV, intOp, subc, AV.solid, S0, encI, encB, e6, e5, e4, e3, e1, g0, encDet, hsI]
    refine hq _ _ (by simp [put_some, e5]) ⟨by simp [put_some, e4, encI], by simp [put_some, e3, encIs], by simp [put_some, e1], by simpa [encDet] using g0⟩
theorem pf_tail {f1 : FuncId} (h1 : PureC P f1 [encDet d] (.tup [encIs (firstS d), encB (firstOk d)])) (hf : farD d = far) (h0 : 0 < far.length) (hl : firstOk d = true → ((firstS d).length : Int) = rd far 0) {f : AF} {S : St} {i : Nat} (st : PfSt d far i f S) :
    AW P (c_pf_tail f1) (RetK [2] (FzK (encB true))) f S := by
  obtain ⟨e4, e3, e1, g0⟩ := st
  have hg0 : far[0]? = some far[0] := List.getElem?_eq_getElem h0
  have h0I : (0 : Int) < far.length := by omega
  have hr0 := rd_get h0
  simp [AW_seq, AW_reg, AW_regD, AW_block, AW_cond, AW_skip, AW_exit, AW_ret, AW_scp, condR_true, condR_false, AThen_normal, AThen_ret, AThen_exit, ABlock_normal, ABlock_ret, ABlock_exit, AScope_normal, AScope_ret, AScope_exit, RetK_ret, RetK_normal, retAV_one, retAV_two, retAV_three, retAV_nil, RG_nil, RG_op, RG_guard, gdR_tt, gdR_ff, gdR_tf, gdR_ft, gdR_un, RG_call, callQ_clo, contK_ap, opR_some, RD_nil, RD_op0, RD_op1, opD0_some, opD1_some, RD_call, callQD_clo, RD_guard, gdD_tt, gdD_ff, gdD_tf, gdD_ft, gdD_un, psh_nil, psh_cons, Apt_nil, Apt_nilT, Apt_true, Apt_false, Dis_def, runT_val, runT_rd, runT_wr, runT_new, runT_mv, ex, put_some, put_none, ev_t, ev_c, argF_zero, argF_succ, set_g, set_n, cells_v, cells_sl, cells_agg, cells_own, cells_ptr, cells_clo, cells_eptr, cells_mp, putc, exBslice, lfill, exField, exIdxV, exIdxP, exBox, exAlloc, exLoad, exStore, exFieldA, exIdxA, exLen, exPick, exUn, exBeq, exMM, exSeq, seqGo, exExt, binV, intOp, subc, AV.solid, S0, encI, encB, c_pf_tail, e1, g0, encDet]
  refine CallR.pure h1 (cl_cons (closed_Det d) cl_nil) (closed_LB _ _) ?_
  cases hok : firstOk d with
  | true =>
    have hk : (0 : Int) ≤ far[0] := by unfold firstOk at hok; rw [hf] at hok; rw [hr0]; simpa using hok
    have hlb : (((firstS d).length : Int) == far[0]) = true := by rw [hl hok, hr0]; simp
    simp [AW_seq, AW_reg, AW_regD, AW_block, AW_cond, AW_skip, AW_exit, AW_ret, AW_scp, condR_true, condR_false, AThen_normal, AThen_ret, AThen_exit, ABlock_normal, ABlock_ret, ABlock_exit, AScope_normal, AScope_ret, AScope_exit, RetK_ret, RetK_normal, retAV_one, retAV_two, retAV_three, retAV_nil, RG_nil, RG_op, RG_guard, gdR_tt, gdR_ff, gdR_tf, gdR_ft, gdR_un, RG_call, callQ_clo, contK_ap, opR_some, RD_nil, RD_op0, RD_op1, opD0_some, opD1_some, RD_call, callQD_clo, RD_guard, gdD_tt, gdD_ff, gdD_tf, gdD_ft, gdD_un, psh_nil, psh_cons, Apt_nil, Apt_nilT, Apt_true, Apt_false, Dis_def, runT_val, runT_rd, runT_wr, runT_new, runT_mv, ex, put_some, put_none, ev_t, ev_c, argF_zero, argF_succ, set_g, set_n, cells_v, cells_sl, cells_agg, cells_own, cells_ptr, cells_clo, cells_eptr, cells_mp, putc, exBslice, lfill, exField, exIdxV, exIdxP, exBox, exAlloc, exLoad, exStore, exFieldA, exIdxA, exLen, exPick, exUn, exBeq, exMM, exSeq, seqGo, exExt, binV, intOp, subc, AV.solid, S0, encI, encB, e3, encIs, hg0, h0, h0I, hk, hlb]

    exact FzK_B true _
  | false =>
    have hk : ¬ (0 : Int) ≤ far[0] := by unfold firstOk at hok; rw [hf] at hok; rw [hr0]; simpa using hok
    simp [AW_seq, AW_reg, AW_regD, AW_block, AW_cond, AW_skip, AW_exit, AW_ret, AW_scp, condR_true, condR_false, AThen_normal, AThen_ret, AThen_exit, ABlock_normal, ABlock_ret, ABlock_exit, AScope_normal, AScope_ret, AScope_exit, RetK_ret, RetK_normal, retAV_one, retAV_two, retAV_three, retAV_nil, RG_nil, RG_op, RG_guard, gdR_tt, gdR_ff, gdR_tf, gdR_ft, gdR_un, RG_call, callQ_clo, contK_ap, opR_some, RD_nil, RD_op0, RD_op1, opD0_some, opD1_some, RD_call, callQD_clo, RD_guard, gdD_tt, gdD_ff, gdD_tf, gdD_ft, gdD_un, psh_nil, psh_cons, Apt_nil, Apt_nilT, Apt_true, Apt_false, Dis_def, runT_val, runT_rd, runT_wr, runT_new, runT_mv, ex, put_some, put_none, ev_t, ev_c, argF_zero, argF_succ, set_g, set_n, cells_v, cells_sl, cells_agg, cells_own, cells_ptr, cells_clo, cells_eptr, cells_mp, putc, exBslice, lfill, exField, exIdxV, exIdxP, exBox, exAlloc, exLoad, exStore, exFieldA, exIdxA, exLen, exPick, exUn, exBeq, exMM, exSeq, seqGo, exExt, binV, intOp, subc, AV.solid, S0, encI, encB, e3, encIs, hg0, h0, h0I, hk]
    exact FzK_B true _
end
theorem caesuralaw18_PathFar_body {P : Program} {fl fg fr ff f1 : FuncId} (d : Det) (hl : PureC P fl [] (encB true)) (gb : Bool) (hg : PureC P fg [encDet d, encI 600] (encB gb)) (hr : PureC P fr [encDet d] (encB (rightD d)))
    (hf : PureC P ff [encDet d] (encIs (farD d))) (h1 : PureC P f1 [encDet d] (.tup [encIs (firstS d), encB (firstOk d)])) :
    AW P (c_caesuralaw18_PathFar fl fg fr ff f1) (RetK [2] (FzK (encB true))) (argF [encDet d]) S0 := by
  simp [AW_seq, AW_reg, AW_regD, AW_block, AW_cond, AW_skip, AW_exit, AW_ret, AW_scp, condR_true, condR_false, AThen_normal, AThen_ret, AThen_exit, ABlock_normal, ABlock_ret, ABlock_exit, AScope_normal, AScope_ret, AScope_exit, RetK_ret, RetK_normal, retAV_one, retAV_two, retAV_three, retAV_nil, RG_nil, RG_op, RG_guard, gdR_tt, gdR_ff, gdR_tf, gdR_ft, gdR_un, RG_call, callQ_clo, contK_ap, opR_some, RD_nil, RD_op0, RD_op1, opD0_some, opD1_some, RD_call, callQD_clo, RD_guard, gdD_tt, gdD_ff, gdD_tf, gdD_ft, gdD_un, psh_nil, psh_cons, Apt_nil, Apt_nilT, Apt_true, Apt_false, Dis_def, runT_val, runT_rd, runT_wr, runT_new, runT_mv, ex, put_some, put_none, ev_t, ev_c, argF_zero, argF_succ, set_g, set_n, cells_v, cells_sl, cells_agg, cells_own, cells_ptr, cells_clo, cells_eptr, cells_mp, putc, exBslice, lfill, exField, exIdxV, exIdxP, exBox, exAlloc, exLoad, exStore, exFieldA, exIdxA, exLen, exPick, exUn, exBeq, exMM, exSeq, seqGo, exExt, binV, intOp, subc, AV.solid, S0, encI, encB, c_caesuralaw18_PathFar, encDet]
  refine CallR.pure hl cl_nil (closed_B _) ?_
  simp [AW_seq, AW_reg, AW_regD, AW_block, AW_cond, AW_skip, AW_exit, AW_ret, AW_scp, condR_true, condR_false, AThen_normal, AThen_ret, AThen_exit, ABlock_normal, ABlock_ret, ABlock_exit, AScope_normal, AScope_ret, AScope_exit, RetK_ret, RetK_normal, retAV_one, retAV_two, retAV_three, retAV_nil, RG_nil, RG_op, RG_guard, gdR_tt, gdR_ff, gdR_tf, gdR_ft, gdR_un, RG_call, callQ_clo, contK_ap, opR_some, RD_nil, RD_op0, RD_op1, opD0_some, opD1_some, RD_call, callQD_clo, RD_guard, gdD_tt, gdD_ff, gdD_tf, gdD_ft, gdD_un, psh_nil, psh_cons, Apt_nil, Apt_nilT, Apt_true, Apt_false, Dis_def, runT_val, runT_rd, runT_wr, runT_new, runT_mv, ex, put_some, put_none, ev_t, ev_c, argF_zero, argF_succ, set_g, set_n, cells_v, cells_sl, cells_agg, cells_own, cells_ptr, cells_clo, cells_eptr, cells_mp, putc, exBslice, lfill, exField, exIdxV, exIdxP, exBox, exAlloc, exLoad, exStore, exFieldA, exIdxA, exLen, exPick, exUn, exBeq, exMM, exSeq, seqGo, exExt, binV, intOp, subc, AV.solid, S0, encI, encB]
  refine CallR.pure hg (cl_cons (closed_Det d) (cl_cons (closed_I _) cl_nil)) (closed_B _) ?_
  cases gb with
  | true =>
    simp [AW_seq, AW_reg, AW_regD, AW_block, AW_cond, AW_skip, AW_exit, AW_ret, AW_scp, condR_true, condR_false, AThen_normal, AThen_ret, AThen_exit, ABlock_normal, ABlock_ret, ABlock_exit, AScope_normal, AScope_ret, AScope_exit, RetK_ret, RetK_normal, retAV_one, retAV_two, retAV_three, retAV_nil, RG_nil, RG_op, RG_guard, gdR_tt, gdR_ff, gdR_tf, gdR_ft, gdR_un, RG_call, callQ_clo, contK_ap, opR_some, RD_nil, RD_op0, RD_op1, opD0_some, opD1_some, RD_call, callQD_clo, RD_guard, gdD_tt, gdD_ff, gdD_tf, gdD_ft, gdD_un, psh_nil, psh_cons, Apt_nil, Apt_nilT, Apt_true, Apt_false, Dis_def, runT_val, runT_rd, runT_wr, runT_new, runT_mv, ex, put_some, put_none, ev_t, ev_c, argF_zero, argF_succ, set_g, set_n, cells_v, cells_sl, cells_agg, cells_own, cells_ptr, cells_clo, cells_eptr, cells_mp, putc, exBslice, lfill, exField, exIdxV, exIdxP, exBox, exAlloc, exLoad, exStore, exFieldA, exIdxA, exLen, exPick, exUn, exBeq, exMM, exSeq, seqGo, exExt, binV, intOp, subc, AV.solid, S0, encI, encB]
    exact FzK_B true _
  | false =>
    simp [AW_seq, AW_reg, AW_regD, AW_block, AW_cond, AW_skip, AW_exit, AW_ret, AW_scp, condR_true, condR_false, AThen_normal, AThen_ret, AThen_exit, ABlock_normal, ABlock_ret, ABlock_exit, AScope_normal, AScope_ret, AScope_exit, RetK_ret, RetK_normal, retAV_one, retAV_two, retAV_three, retAV_nil, RG_nil, RG_op, RG_guard, gdR_tt, gdR_ff, gdR_tf, gdR_ft, gdR_un, RG_call, callQ_clo, contK_ap, opR_some, RD_nil, RD_op0, RD_op1, opD0_some, opD1_some, RD_call, callQD_clo, RD_guard, gdD_tt, gdD_ff, gdD_tf, gdD_ft, gdD_un, psh_nil, psh_cons, Apt_nil, Apt_nilT, Apt_true, Apt_false, Dis_def, runT_val, runT_rd, runT_wr, runT_new, runT_mv, ex, put_some, put_none, ev_t, ev_c, argF_zero, argF_succ, set_g, set_n, cells_v, cells_sl, cells_agg, cells_own, cells_ptr, cells_clo, cells_eptr, cells_mp, putc, exBslice, lfill, exField, exIdxV, exIdxP, exBox, exAlloc, exLoad, exStore, exFieldA, exIdxA, exLen, exPick, exUn, exBeq, exMM, exSeq, seqGo, exExt, binV, intOp, subc, AV.solid, S0, encI, encB, encDet]
    refine CallR.pure hr (cl_cons (closed_Det d) cl_nil) (closed_B _) ?_
    by_cases hR : rightD d = true
    · have R := (right_iff d).mp hR
      have hfd : farD d = farS ⟨d.next, d.fin⟩ := by unfold farD; rw [if_pos hR]
      have fo := farS_ok ⟨d.next, d.fin⟩
      rw [← hfd] at fo
      have hlaw := first_law R []
      have hn1 := R.n1
      have hn2 := R.n2
      have hfin := R.fin
      simp [AW_seq, AW_reg, AW_regD, AW_block, AW_cond, AW_skip, AW_exit, AW_ret, AW_scp, condR_true, condR_false, AThen_normal, AThen_ret, AThen_exit, ABlock_normal, ABlock_ret, ABlock_exit, AScope_normal, AScope_ret, AScope_exit, RetK_ret, RetK_normal, retAV_one, retAV_two, retAV_three, retAV_nil, RG_nil, RG_op, RG_guard, gdR_tt, gdR_ff, gdR_tf, gdR_ft, gdR_un, RG_call, callQ_clo, contK_ap, opR_some, RD_nil, RD_op0, RD_op1, opD0_some, opD1_some, RD_call, callQD_clo, RD_guard, gdD_tt, gdD_ff, gdD_tf, gdD_ft, gdD_un, psh_nil, psh_cons, Apt_nil, Apt_nilT, Apt_true, Apt_false, Dis_def, runT_val, runT_rd, runT_wr, runT_new, runT_mv, ex, put_some, put_none, ev_t, ev_c, argF_zero, argF_succ, set_g, set_n, cells_v, cells_sl, cells_agg, cells_own, cells_ptr, cells_clo, cells_eptr, cells_mp, putc, exBslice, lfill, exField, exIdxV, exIdxP, exBox, exAlloc, exLoad, exStore, exFieldA, exIdxA, exLen, exPick, exUn, exBeq, exMM, exSeq, seqGo, exExt, binV, intOp, subc, AV.solid, S0, encI, encB, hR, encDet]
      refine CallR.pure hf (cl_cons (closed_Det d) cl_nil) (closed_Is _) ?_
      generalize hfg : farD d = far at *
      have hfl : far.length = d.next.length := fo.len
      have hne : ((far.length : Int) != d.next.length) = false := by simp [hfl]
      simp [AW_seq, AW_reg, AW_regD, AW_block, AW_cond, AW_skip, AW_exit, AW_ret, AW_scp, condR_true, condR_false, AThen_normal, AThen_ret, AThen_exit, ABlock_normal, ABlock_ret, ABlock_exit, AScope_normal, AScope_ret, AScope_exit, RetK_ret, RetK_normal, retAV_one, retAV_two, retAV_three, retAV_nil, RG_nil, RG_op, RG_guard, gdR_tt, gdR_ff, gdR_tf, gdR_ft, gdR_un, RG_call, callQ_clo, contK_ap, opR_some, RD_nil, RD_op0, RD_op1, opD0_some, opD1_some, RD_call, callQD_clo, RD_guard, gdD_tt, gdD_ff, gdD_tf, gdD_ft, gdD_un, psh_nil, psh_cons, Apt_nil, Apt_nilT, Apt_true, Apt_false, Dis_def, runT_val, runT_rd, runT_wr, runT_new, runT_mv, ex, put_some, put_none, ev_t, ev_c, argF_zero, argF_succ, set_g, set_n, cells_v, cells_sl, cells_agg, cells_own, cells_ptr, cells_clo, cells_eptr, cells_mp, putc, exBslice, lfill, exField, exIdxV, exIdxP, exBox, exAlloc, exLoad, exStore, exFieldA, exIdxA, exLen, exPick, exUn, exBeq, exMM, exSeq, seqGo, exExt, binV, intOp, subc, AV.solid, S0, encI, encB, encIs, encIss, encDet, hne]
      refine AW_loop (pfI d far) far.length ⟨0, by omega, by omega, ⟨by simp [put_some, encI], by simp [put_some, encIs], by simp [put_some], by simp [set_g, encDet, encIss, encI]⟩⟩ ?_
      rintro m f S ⟨i, hi, rfl, st⟩
      by_cases hlt : i < far.length
      · obtain ⟨e4, e3, e1, g0⟩ := st
        have hil : i < d.next.length := by omega
        have hiI : (i : Int) < far.length := by omega
        have hiN : (i : Int) < d.next.length := by omega
        have hiF : (i : Int) < d.fin.length := by omega
        have hif : i < d.fin.length := by omega
        have hgi : far[i]? = some far[i] := List.getElem?_eq_getElem hlt
        have hgf : d.fin[i]? = some d.fin[i] := List.getElem?_eq_getElem hif
        have hri := rd_get hlt
        have hvi := fo.val i hil
        have hli := fo.lt i hil
        have hzi := fo.zero i hil
        have hgn : (Gr.mk d.next d.fin).n = d.next.length := rfl
        have hend : (Gr.mk d.next d.fin).isEnd i = d.fin[i] := by simp [Gr.isEnd, List.getD_eq_getElem?_getD, hgf]
        have hz : (far[i] == 0) = d.fin[i] := by
          rw [hend] at hzi
          cases hb : d.fin[i] with
          | true => rw [hb] at hzi; simp [hri, hzi]
          | false => rw [hb] at hzi; simp [hri]; intro h; exact absurd (hzi.mp h) (by simp)
        have c1 : ¬ far[i] < -1 := by omega
        have c2 : ¬ (far.length : Int) ≤ far[i] := by omega
        have hrow : d.next[i]? = some d.next[i] := List.getElem?_eq_getElem hil
        have w3 : IntKind.i64.wrap ((i : Int) + 1) = (i : Int) + 1 := wrap_in _ (by omega)
        have near : 0 < far[i] → (d.next[i]).any (nearQ far i) = true := by
          intro h
          obtain ⟨t, t1, t2, t3⟩ := fo.pre i hil (by omega)
          obtain ⟨row', r1, r2⟩ := t2
          have : row' = d.next[i] := by
            have : d.next[i]? = some row' := r1
            rw [hrow] at this; exact (Option.some.inj this).symm
          subst this
          exact List.any_eq_true.mpr ⟨(t : Int), r2, by unfold nearQ; simp; omega⟩
        have nxt : ∀ (f2 : AF) (S2 : St), f2 4 = encI ((i : Int) + 1) → f2 3 = encIs far → f2 1 = .ptr 0 0 0 → S2.g 0 = some (.arr 3 [encDet d]) → INext (pfI d far) (far.length - i) f2 S2 := by
          intro f2 S2 a4 a3 a1 ag
          exact ⟨far.length - (i + 1), by omega, i + 1, by omega, rfl, ⟨by rw [a4]; simp [encI], a3, a1, ag⟩⟩
        cases hb : d.fin[i] <;>
        · rw [hb] at hz
          simp [AW_seq, AW_reg, AW_regD, AW_block, AW_cond, AW_skip, AW_exit, AW_ret, AW_scp, condR_true, condR_false, AThen_normal, AThen_ret, AThen_exit, ABlock_normal, ABlock_ret, ABlock_exit, AScope_normal, AScope_ret, AScope_exit, RetK_ret, RetK_normal, retAV_one, retAV_two, retAV_three, retAV_nil, RG_nil, RG_op, RG_guard, gdR_tt, gdR_ff, gdR_tf, gdR_ft, gdR_un, RG_call, callQ_clo, contK_ap, opR_some, RD_nil, RD_op0, RD_op1, opD0_some, opD1_some, RD_call, callQD_clo, RD_guard, gdD_tt, gdD_ff, gdD_tf, gdD_ft, gdD_un, psh_nil, psh_cons, Apt_nil, Apt_nilT, Apt_true, Apt_false, Dis_def, runT_val, runT_rd, runT_wr, runT_new, runT_mv, ex, put_some, put_none, ev_t, ev_c, argF_zero, argF_succ, set_g, set_n, cells_v, cells_sl, cells_agg, cells_own, cells_ptr, cells_clo, cells_eptr, cells_mp, putc, exBslice, lfill, exField, exIdxV, exIdxP, exBox, exAlloc, exLoad, exStore, exFieldA, exIdxA, exLen, exPick, exUn, exBeq, exMM, exSeq, seqGo, exExt, binV, intOp, subc, AV.solid, S0, encI, encB, e4, e3, e1, g0, encDet, encIss, encBs, encIs, hiI, hiF, hiN, hgi, hgf, hb, hz, c1, c2]
          refine pf_in R fo hrow ⟨0, by omega, by omega, by simp [put_some, encI], by simp [put_some, encB], ⟨by simp [put_some, e4, encI], by simp [put_some, e3, encIs], by simp [put_some, e1], by simpa [encDet, encIss, encBs] using g0⟩⟩ (fun f' S' h5 st' => ?_)
          obtain ⟨k4, k3, k1, kg⟩ := st'
          by_cases hp : 0 < far[i]
          · rw [near hp] at h5
            simp [AW_seq, AW_reg, AW_regD, AW_block, AW_cond, AW_skip, AW_exit, AW_ret, AW_scp, condR_true, condR_false, AThen_normal, AThen_ret, AThen_exit, ABlock_normal, ABlock_ret, ABlock_exit, AScope_normal, AScope_ret, AScope_exit, RetK_ret, RetK_normal, retAV_one, retAV_two, retAV_three, retAV_nil, RG_nil, RG_op, RG_guard, gdR_tt, gdR_ff, gdR_tf, gdR_ft, gdR_un, RG_call, callQ_clo, contK_ap, opR_some, RD_nil, RD_op0, RD_op1, opD0_some, opD1_some, RD_call, callQD_clo, RD_guard, gdD_tt, gdD_ff, gdD_tf, gdD_ft, gdD_un, psh_nil, psh_cons, Apt_nil, Apt_nilT, Apt_true, Apt_false, Dis_def, runT_val, runT_rd, runT_wr, runT_new, runT_mv, ex, put_some, put_none, ev_t, ev_c, argF_zero, argF_succ, set_g, set_n, cells_v, cells_sl, cells_agg, cells_own, cells_ptr, cells_clo, cells_eptr, cells_mp, putc, exBslice, lfill, exField, exIdxV, exIdxP, exBox, exAlloc, exLoad, exStore, exFieldA, exIdxA, exLen, exPick, exUn, exBeq, exMM, exSeq, seqGo, exExt, binV, intOp, subc, AV.solid, S0, encI, encB, k4, k3, k1, h5, encIs, hiI, hgi, hp, w3]
            refine nxt _ _ ?_ ?_ ?_ kg
            · simp [put_some, encI]
            · simp [put_some, k3, encIs]
            · simp [put_some, k1]
          · simp [AW_seq, AW_reg, AW_regD, AW_block, AW_cond, AW_skip, AW_exit, AW_ret, AW_scp, condR_true, condR_false, AThen_normal, AThen_ret, AThen_exit, ABlock_normal, ABlock_ret, ABlock_exit, AScope_normal, AScope_ret, AScope_exit, RetK_ret, RetK_normal, retAV_one, retAV_two, retAV_three, retAV_nil, RG_nil, RG_op, RG_guard, gdR_tt, gdR_ff, gdR_tf, gdR_ft, gdR_un, RG_call, callQ_clo, contK_ap, opR_some, RD_nil, RD_op0, RD_op1, opD0_some, opD1_some, RD_call, callQD_clo, RD_guard, gdD_tt, gdD_ff, gdD_tf, gdD_ft, gdD_un, psh_nil, psh_cons, Apt_nil, Apt_nilT, Apt_true, Apt_false, Dis_def, runT_val, runT_rd, runT_wr, runT_new, runT_mv, ex, put_some, put_none, ev_t, ev_c, argF_zero, argF_succ, set_g, set_n, cells_v, cells_sl, cells_agg, cells_own, cells_ptr, cells_clo, cells_eptr, cells_mp, putc, exBslice, lfill, exField, exIdxV, exIdxP, exBox, exAlloc, exLoad, exStore, exFieldA, exIdxA, exLen, exPick, exUn, exBeq, exMM, exSeq, seqGo, exExt, binV, intOp, subc, AV.solid, S0, encI, encB, k4, k3, k1, encIs, hiI, hgi, hp, w3]
            refine nxt _ _ ?_ ?_ ?_ kg
            · simp [put_some, encI]
            · simp [put_some, k3, encIs]
            · simp [put_some, k1]
      · simp [AW_seq, AW_reg, AW_regD, AW_block, AW_cond, AW_skip, AW_exit, AW_ret, AW_scp, condR_true, condR_false, AThen_normal, AThen_ret, AThen_exit, ABlock_normal, ABlock_ret, ABlock_exit, AScope_normal, AScope_ret, AScope_exit, RetK_ret, RetK_normal, retAV_one, retAV_two, retAV_three, retAV_nil, RG_nil, RG_op, RG_guard, gdR_tt, gdR_ff, gdR_tf, gdR_ft, gdR_un, RG_call, callQ_clo, contK_ap, opR_some, RD_nil, RD_op0, RD_op1, opD0_some, opD1_some, RD_call, callQD_clo, RD_guard, gdD_tt, gdD_ff, gdD_tf, gdD_ft, gdD_un, psh_nil, psh_cons, Apt_nil, Apt_nilT, Apt_true, Apt_false, Dis_def, runT_val, runT_rd, runT_wr, runT_new, runT_mv, ex, put_some, put_none, ev_t, ev_c, argF_zero, argF_succ, set_g, set_n, cells_v, cells_sl, cells_agg, cells_own, cells_ptr, cells_clo, cells_eptr, cells_mp, putc, exBslice, lfill, exField, exIdxV, exIdxP, exBox, exAlloc, exLoad, exStore, exFieldA, exIdxA, exLen, exPick, exUn, exBeq, exMM, exSeq, seqGo, exExt, binV, intOp, subc, AV.solid, S0, encI, encB, st.e4, st.e3, encIs, hlt]
        refine pf_tail h1 hfg (by omega) (fun hok => (hlaw.1 hok).2.1) (i := i) ⟨by simp [put_some, st.e4, encI], by simp [put_some, st.e3, encIs], by simp [put_some, st.e1], by simpa using st.g0⟩
    · simp [AW_seq, AW_reg, AW_regD, AW_block, AW_cond, AW_skip, AW_exit, AW_ret, AW_scp, condR_true, condR_false, AThen_normal, AThen_ret, AThen_exit, ABlock_normal, ABlock_ret, ABlock_exit, AScope_normal, AScope_ret, AScope_exit, RetK_ret, RetK_normal, retAV_one, retAV_two, retAV_three, retAV_nil, RG_nil, RG_op, RG_guard, gdR_tt, gdR_ff, gdR_tf, gdR_ft, gdR_un, RG_call, callQ_clo, contK_ap, opR_some, RD_nil, RD_op0, RD_op1, opD0_some, opD1_some, RD_call, callQD_clo, RD_guard, gdD_tt, gdD_ff, gdD_tf, gdD_ft, gdD_un, psh_nil, psh_cons, Apt_nil, Apt_nilT, Apt_true, Apt_false, Dis_def, runT_val, runT_rd, runT_wr, runT_new, runT_mv, ex, put_some, put_none, ev_t, ev_c, argF_zero, argF_succ, set_g, set_n, cells_v, cells_sl, cells_agg, cells_own, cells_ptr, cells_clo, cells_eptr, cells_mp, putc, exBslice, lfill, exField, exIdxV, exIdxP, exBox, exAlloc, exLoad, exStore, exFieldA, exIdxA, exLen, exPick, exUn, exBeq, exMM, exSeq, seqGo, exExt, binV, intOp, subc, AV.solid, S0, encI, encB, hR]
      exact FzK_B true _
end Go.Rf
