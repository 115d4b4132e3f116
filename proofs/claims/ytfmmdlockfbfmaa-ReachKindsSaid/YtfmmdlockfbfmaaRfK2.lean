import Derived.Test.YtfmmdlockfbfmaaRfK1
/- Own work: lists, the other way round. -/
set_option linter.unusedVariables false
set_option linter.unusedSimpArgs false
namespace Go.Rf
open Go.RowKit

def c_slices_Reverse_Sint_int_ : AC :=
  (.seq (.reg none [
   ⟨(some 4), .mv (.t 0), none, none⟩,
   ⟨(some 5), .len (.t 4), none, none⟩,
   ⟨(some 6), .bin .sub (.t 5) (.c (.v (.int .i64 1))), none, none⟩,
   ⟨(some 2), .mv (.c (.v (.int .i64 0))), none, none⟩,
   ⟨(some 3), .mv (.t 6), none, none⟩])
  (.block 0 (.loop (.seq (.seq (.reg none [
     ⟨(some 7), .mv (.t 2), none, none⟩,
     ⟨(some 8), .mv (.t 3), none, none⟩,
     ⟨(some 9), .bin .lss (.t 7) (.t 8), none, none⟩])
    (.cond (.t 9) .skip (.exit 0)))
    (.seq (.block 1 (.reg (some [[], [], [], [], [], [], [], [], [], [], [], [], [], [false, false, false, false, false, false, false, false, false, true, true]]) [
      ⟨(some 14), .mv (.t 0), none, none⟩,
      ⟨(some 15), .mv (.t 2), none, none⟩,
      ⟨(some 16), .mv (.t 0), none, none⟩,
      ⟨(some 17), .mv (.t 3), none, none⟩,
      ⟨(some 18), .mv (.t 0), none, none⟩,
      ⟨(some 19), .mv (.t 3), none, none⟩,
      ⟨(some 20), .idxA 1 (.t 18) (.t 19), none, none⟩,
      ⟨(some 21), .load none (.t 20), none, none⟩,
      ⟨(some 22), .mv (.t 0), none, none⟩,
      ⟨(some 23), .mv (.t 2), none, none⟩,
      ⟨(some 24), .idxA 1 (.t 22) (.t 23), none, none⟩,
      ⟨(some 25), .load none (.t 24), none, none⟩,
      ⟨(some 26), .idxA 1 (.t 14) (.t 15), none, none⟩,
      ⟨none, .store 1 (.t 26) (.t 21), none, none⟩,
      ⟨(some 27), .idxA 1 (.t 16) (.t 17), none, none⟩,
      ⟨none, .store 1 (.t 27) (.t 25), none, none⟩]))
    (.reg none [
     ⟨(some 10), .mv (.t 2), none, none⟩,
     ⟨(some 11), .bin .add (.t 10) (.c (.v (.int .i64 1))), none, none⟩,
     ⟨(some 12), .mv (.t 3), none, none⟩,
     ⟨(some 13), .bin .sub (.t 12) (.c (.v (.int .i64 1))), none, none⟩,
     ⟨(some 2), .mv (.t 11), none, none⟩,
     ⟨(some 3), .mv (.t 13), none, none⟩]))))))
def c_caesuraref11_Back : AC :=
  (.seq (.reg none [
   ⟨(some 2), .mv (.c (.sl true [])), none, none⟩])
  (.seq (.reg none [
   ⟨(some 3), .mv (.c (.sl true [])), none, none⟩])
  (.seq (.seq (.reg none [
   ⟨(some 5), .mv (.t 0), none, none⟩,
   ⟨(some 6), .len (.t 5), none, none⟩,
   ⟨(some 7), .bin .sub (.t 6) (.c (.v (.int .i64 1))), none, none⟩,
   ⟨(some 4), .mv (.t 7), none, none⟩])
  (.block 0 (.loop (.seq (.seq (.reg none [
     ⟨(some 8), .mv (.t 4), none, none⟩,
     ⟨(some 9), .bin .geq (.t 8) (.c (.v (.int .i64 0))), none, none⟩])
    (.cond (.t 9) .skip (.exit 0)))
    (.seq (.block 1 (.reg none [
      ⟨(some 12), .mv (.t 3), none, none⟩,
      ⟨(some 13), .mv (.t 0), none, none⟩,
      ⟨(some 14), .mv (.t 4), none, none⟩,
      ⟨(some 15), .idxA 1 (.t 13) (.t 14), none, none⟩,
      ⟨(some 16), .load none (.t 15), none, none⟩,
      ⟨(some 17), .bslice 1 1 (.v (.int .i64 0)) [(0, (.t 16))], none, none⟩,
      ⟨(some 18), .app 1 8 (.t 12) (.t 17), none, none⟩,
      ⟨(some 3), .mv (.t 18), none, none⟩]))
    (.reg none [
     ⟨(some 10), .mv (.t 4), none, none⟩,
     ⟨(some 11), .bin .sub (.t 10) (.c (.v (.int .i64 1))), none, none⟩,
     ⟨(some 4), .mv (.t 11), none, none⟩]))))))
  (.seq (.reg none [
   ⟨(some 19), .mv (.t 3), none, none⟩,
   ⟨(some 2), .mv (.t 19), none, none⟩])
  .ret))))
/-- The list with its outer i places on either side exchanged. -/
def revAt (l : List Int) (i : Nat) : List Int := (List.range l.length).map fun k => if k < i ∨ l.length ≤ k + i then l.getD (l.length - 1 - k) 0 else l.getD k 0
theorem revAt_len (l : List Int) (i : Nat) : (revAt l i).length = l.length := by simp [revAt]
theorem revAt_zero (l : List Int) : revAt l 0 = l := by
  refine List.ext_getElem (by simp [revAt]) (fun k h1 h2 => ?_)
  simp only [revAt, List.getElem_map, List.getElem_range]
  rw [if_neg (by omega), List.getD_eq_getElem?_getD, List.getElem?_eq_getElem h2]; rfl
theorem revAt_end (l : List Int) {i : Nat} (h : l.length ≤ 2 * i + 1) : revAt l i = l.reverse := by
  refine List.ext_getElem (by simp [revAt]) (fun k h1 h2 => ?_)
  have hk : k < l.length := by simpa [revAt] using h1
  simp only [revAt, List.getElem_map, List.getElem_range, List.getElem_reverse]
  by_cases hc : k < i ∨ l.length ≤ k + i
  · rw [if_pos hc, List.getD_eq_getElem?_getD, List.getElem?_eq_getElem (by omega)]; rfl
  · rw [if_neg hc, List.getD_eq_getElem?_getD, List.getElem?_eq_getElem hk]
    simp only [Option.getD_some]
    congr 1; omega
theorem revAt_get (l : List Int) (i k : Nat) (hk : k < l.length) (h : (revAt l i).length = l.length) : (revAt l i)[k]'(by omega) = if k < i ∨ l.length ≤ k + i then l[l.length - 1 - k]'(by omega) else l[k] := by
  simp only [revAt, List.getElem_map, List.getElem_range]
  split
  · rw [List.getD_eq_getElem?_getD, List.getElem?_eq_getElem (by omega)]; rfl
  · rw [List.getD_eq_getElem?_getD, List.getElem?_eq_getElem hk]; rfl
theorem revAt_succ (l : List Int) {i : Nat} (h : 2 * i + 1 < l.length) (hl : (revAt l i).length = l.length) :
    revAt l (i + 1) = ((revAt l i).set i ((revAt l i)[l.length - 1 - i]'(by omega))).set (l.length - 1 - i) ((revAt l i)[i]'(by omega)) := by
  refine List.ext_getElem (by simp [revAt]) (fun k h1 h2 => ?_)
  have hk : k < l.length := by simpa [revAt] using h1
  rw [revAt_get l (i + 1) k hk (revAt_len _ _), List.getElem_set, List.getElem_set]
  have b1 := revAt_get l i i (by omega) hl
  have b2 := revAt_get l i (l.length - 1 - i) (by omega) hl
  have b3 := revAt_get l i k hk hl
  simp only [b1, b2, b3]
  by_cases e1 : l.length - 1 - i = k
  · rw [if_pos e1, if_pos (by omega), if_neg (by omega)]
    congr 1; omega
  · rw [if_neg e1]
    by_cases e2 : i = k
    · rw [if_pos e2, if_pos (by omega), if_neg (by omega)]
      congr 1; omega
    · rw [if_neg e2]
      by_cases hc : k < i ∨ l.length ≤ k + i
      · rw [if_pos hc, if_pos (by omega)]
      · rw [if_neg hc, if_neg (by omega)]
def rvI (S : St) (id : Nat) (l : List Int) (i : Nat) (f : AF) (S' : St) : Prop := f 0 = .own id 0 l.length ∧ f 2 = encI i ∧ f 3 = encI ((l.length : Int) - 1 - i) ∧ S'.g = (S.set id (some (.arr 1 ((revAt l i).map encI)))).g ∧ S.n ≤ S'.n
def HRev (P : Program) (f : FuncId) : Prop := ∀ (S : St) (id : Nat) (l : List Int) (K : AV → St → Prop), S.g id = some (.arr 1 (l.map encI)) → l.length ≤ 1000000 → (∀ n, S.n ≤ n → K (.tup []) ⟨n, (S.set id (some (.arr 1 (l.reverse.map encI)))).g⟩) → CallR P f [.own id 0 l.length] S K
theorem HRev_of {P : Program} (hm : P.follows .mixedOrders = true) {f : FuncId} (h : Is P f c_slices_Reverse_Sint_int_ [] 1) : HRev P f := by
  intro S id l K hg hl hk
  refine h.callR hm rfl ?_
  have hw0 := wrap_in ((l.length : Int) - 1) (by omega)
  simp [AW_seq, AW_reg, AW_regD, AW_block, AW_cond, AW_skip, AW_exit, AW_ret, AW_scp, condR_true, condR_false, AThen_normal, AThen_ret, AThen_exit, ABlock_normal, ABlock_ret, ABlock_exit, AScope_normal, AScope_ret, AScope_exit, RetK_ret, RetK_normal, retAV_one, retAV_two, retAV_three, retAV_nil, RG_nil, RG_op, RG_guard, gdR_tt, gdR_ff, gdR_tf, gdR_ft, gdR_un, RG_call, callQ_clo, contK_ap, opR_some, RD_nil, RD_op0, RD_op1, opD0_some, opD1_some, RD_call, callQD_clo, RD_guard, gdD_tt, gdD_ff, gdD_tf, gdD_ft, gdD_un, psh_nil, psh_cons, Apt_nil, Apt_nilT, Apt_true, Apt_false, Dis_def, runT_val, runT_rd, runT_wr, runT_new, runT_mv, ex, put_some, put_none, ev_t, ev_c, argF_zero, argF_succ, set_g, set_n, cells_v, cells_sl, cells_agg, cells_own, cells_ptr, cells_clo, cells_eptr, cells_mp, putc, exBslice, lfill, exField, exIdxV, exIdxP, exBox, exAlloc, exLoad, exStore, exFieldA, exIdxA, exLen, exPick, exUn, exBeq, exMM, exSeq, seqGo, exExt, binV, intOp, subc, AV.solid, S0, encI, encB, c_slices_Reverse_Sint_int_, hw0]
  refine AW_for (l.length / 2) (rvI S id l) ?_ ?_
  · refine ⟨?_, ?_, ?_, ?_, ?_⟩
    · simp [put_some, argF_zero]
    · simp [put_some, encI]
    · simp [put_some, encI]
    · rw [revAt_zero]
      funext j
      simp only [set_g]
      split
      · rename_i e; rw [e]; exact hg
      · rfl
    · simp
  · rintro i f S' hi ⟨e0, e2, e3, gq, hn⟩
    have hlen := revAt_len l i
    have gid : S'.g id = some (.arr 1 ((revAt l i).map encI)) := by rw [gq]; simp [set_g]
    by_cases hlt : 2 * i + 1 < l.length
    · have hlt1 : (i : Int) < (l.length : Int) - 1 - i := by omega
      have j1 : ((l.length : Int) - 1 - i).toNat = l.length - 1 - i := by omega
      have j0 : (0 : Int) ≤ (l.length : Int) - 1 - i := by omega
      have j2 : (l.length : Int) - 1 - i < l.length := by omega
      have hil : (i : Int) < l.length := by omega
      have a1 : (revAt l i)[i]? = some ((revAt l i)[i]'(by omega)) := List.getElem?_eq_getElem (by omega)
      have a2 : (revAt l i)[l.length - 1 - i]? = some ((revAt l i)[l.length - 1 - i]'(by omega)) := List.getElem?_eq_getElem (by omega)
      have hne : ¬ (i = l.length - 1 - i) := by omega
      have j3 : (i : Int) ≤ (l.length : Int) - 1 := by omega
      have j4 : (l.length : Int) - 1 - i < l.length := by omega
      have j5 : l.length ≤ (revAt l i).length := by omega
      simp [AW_seq, AW_reg, AW_regD, AW_block, AW_cond, AW_skip, AW_exit, AW_ret, AW_scp, condR_true, condR_false, AThen_normal, AThen_ret, AThen_exit, ABlock_normal, ABlock_ret, ABlock_exit, AScope_normal, AScope_ret, AScope_exit, RetK_ret, RetK_normal, retAV_one, retAV_two, retAV_three, retAV_nil, RG_nil, RG_op, RG_guard, gdR_tt, gdR_ff, gdR_tf, gdR_ft, gdR_un, RG_call, callQ_clo, contK_ap, opR_some, RD_nil, RD_op0, RD_op1, opD0_some, opD1_some, RD_call, callQD_clo, RD_guard, gdD_tt, gdD_ff, gdD_tf, gdD_ft, gdD_un, psh_nil, psh_cons, Apt_nil, Apt_nilT, Apt_true, Apt_false, Dis_def, runT_val, runT_rd, runT_wr, runT_new, runT_mv, ex, put_some, put_none, ev_t, ev_c, argF_zero, argF_succ, set_g, set_n, cells_v, cells_sl, cells_agg, cells_own, cells_ptr, cells_clo, cells_eptr, cells_mp, putc, exBslice, lfill, exField, exIdxV, exIdxP, exBox, exAlloc, exLoad, exStore, exFieldA, exIdxA, exLen, exPick, exUn, exBeq, exMM, exSeq, seqGo, exExt, binV, intOp, subc, AV.solid, S0, encI, encB, e0, e2, e3, gid, hlt1, j1, j0, j2, hil, hlen, a1, a2, hne, j3, j4, j5]
      rw [wrap_in _ (by omega), wrap_in _ (by omega)]
      refine ⟨by omega, ?_, ?_, ?_, ?_, ?_⟩
      · simp [put_some, e0]
      · simp [put_some, encI]
      · simp [put_some, encI]; omega
      · rw [revAt_succ l hlt hlen]
        funext j
        simp only [set_g, gq]
        split
        · simp [List.map_set, encI]
        · rfl
      · simp [set_n]; omega
    · have hlt1 : ¬ (i : Int) < (l.length : Int) - 1 - i := by omega
      rw [revAt_end l (by omega)] at gq
      simp [AW_seq, AW_reg, AW_regD, AW_block, AW_cond, AW_skip, AW_exit, AW_ret, AW_scp, condR_true, condR_false, AThen_normal, AThen_ret, AThen_exit, ABlock_normal, ABlock_ret, ABlock_exit, AScope_normal, AScope_ret, AScope_exit, RetK_ret, RetK_normal, retAV_one, retAV_two, retAV_three, retAV_nil, RG_nil, RG_op, RG_guard, gdR_tt, gdR_ff, gdR_tf, gdR_ft, gdR_un, RG_call, callQ_clo, contK_ap, opR_some, RD_nil, RD_op0, RD_op1, opD0_some, opD1_some, RD_call, callQD_clo, RD_guard, gdD_tt, gdD_ff, gdD_tf, gdD_ft, gdD_un, psh_nil, psh_cons, Apt_nil, Apt_nilT, Apt_true, Apt_false, Dis_def, runT_val, runT_rd, runT_wr, runT_new, runT_mv, ex, put_some, put_none, ev_t, ev_c, argF_zero, argF_succ, set_g, set_n, cells_v, cells_sl, cells_agg, cells_own, cells_ptr, cells_clo, cells_eptr, cells_mp, putc, exBslice, lfill, exField, exIdxV, exIdxP, exBox, exAlloc, exLoad, exStore, exFieldA, exIdxA, exLen, exPick, exUn, exBeq, exMM, exSeq, seqGo, exExt, binV, intOp, subc, AV.solid, S0, encI, encB, e0, e2, e3, hlt1]
      have := hk (S'.n + 3) (by omega)
      rw [← gq] at this
      exact this
def bkI (l : List Int) (i : Nat) (f : AF) (S : St) : Prop := f 0 = encIs l ∧ f 4 = encI ((l.length : Int) - 1 - i) ∧ Vec S.g (f 3) 1 (((l.reverse).take i).map encI)
theorem Back11_body {P : Program} (l : List Int) (hl : l.length ≤ 1000000) : AW P c_caesuraref11_Back (RetK [2] (FzK (encIs l.reverse))) (argF [encIs l]) S0 := by
  have hw0 := wrap_in ((l.length : Int) - 1) (by omega)
  simp [AW_seq, AW_reg, AW_regD, AW_block, AW_cond, AW_skip, AW_exit, AW_ret, AW_scp, condR_true, condR_false, AThen_normal, AThen_ret, AThen_exit, ABlock_normal, ABlock_ret, ABlock_exit, AScope_normal, AScope_ret, AScope_exit, RetK_ret, RetK_normal, retAV_one, retAV_two, retAV_three, retAV_nil, RG_nil, RG_op, RG_guard, gdR_tt, gdR_ff, gdR_tf, gdR_ft, gdR_un, RG_call, callQ_clo, contK_ap, opR_some, RD_nil, RD_op0, RD_op1, opD0_some, opD1_some, RD_call, callQD_clo, RD_guard, gdD_tt, gdD_ff, gdD_tf, gdD_ft, gdD_un, psh_nil, psh_cons, Apt_nil, Apt_nilT, Apt_true, Apt_false, Dis_def, runT_val, runT_rd, runT_wr, runT_new, runT_mv, ex, put_some, put_none, ev_t, ev_c, argF_zero, argF_succ, set_g, set_n, cells_v, cells_sl, cells_agg, cells_own, cells_ptr, cells_clo, cells_eptr, cells_mp, putc, exBslice, lfill, exField, exIdxV, exIdxP, exBox, exAlloc, exLoad, exStore, exFieldA, exIdxA, exLen, exPick, exUn, exBeq, exMM, exSeq, seqGo, exExt, binV, intOp, subc, AV.solid, S0, encI, encB, c_caesuraref11_Back, encIs, hw0]
  refine AW_for l.length (bkI l) ?_ ?_
  · refine ⟨?_, ?_, ?_⟩
    · simp [put_some, argF_zero, encIs]
    · simp [put_some, encI]
    · simp [put_some]; exact .nil
  · rintro i f S hi ⟨e0, e4, hv⟩
    by_cases hlt : i < l.length
    · have h0 : (0 : Int) ≤ (l.length : Int) - 1 - i := by omega
      have h0' : (i : Int) ≤ (l.length : Int) - 1 := by omega
      have hg : l[((l.length : Int) - 1 - i).toNat]? = some (l[l.length - 1 - i]'(by omega)) := by
        rw [show ((l.length : Int) - 1 - i).toNat = l.length - 1 - i by omega]
        exact List.getElem?_eq_getElem (by omega)
      have hr : l.reverse.take (i + 1) = l.reverse.take i ++ [l[l.length - 1 - i]'(by omega)] := by
        rw [List.take_add_one, List.getElem?_eq_getElem (by simpa using hlt), List.getElem_reverse]; rfl
      have hg2 : l[l.length - 1 - i]? = some (l[l.length - 1 - i]'(by omega)) := List.getElem?_eq_getElem (by omega)
      simp [AW_seq, AW_reg, AW_regD, AW_block, AW_cond, AW_skip, AW_exit, AW_ret, AW_scp, condR_true, condR_false, AThen_normal, AThen_ret, AThen_exit, ABlock_normal, ABlock_ret, ABlock_exit, AScope_normal, AScope_ret, AScope_exit, RetK_ret, RetK_normal, retAV_one, retAV_two, retAV_three, retAV_nil, RG_nil, RG_op, RG_guard, gdR_tt, gdR_ff, gdR_tf, gdR_ft, gdR_un, RG_call, callQ_clo, contK_ap, opR_some, RD_nil, RD_op0, RD_op1, opD0_some, opD1_some, RD_call, callQD_clo, RD_guard, gdD_tt, gdD_ff, gdD_tf, gdD_ft, gdD_un, psh_nil, psh_cons, Apt_nil, Apt_nilT, Apt_true, Apt_false, Dis_def, runT_val, runT_rd, runT_wr, runT_new, runT_mv, ex, put_some, put_none, ev_t, ev_c, argF_zero, argF_succ, set_g, set_n, cells_v, cells_sl, cells_agg, cells_own, cells_ptr, cells_clo, cells_eptr, cells_mp, putc, exBslice, lfill, exField, exIdxV, exIdxP, exBox, exAlloc, exLoad, exStore, exFieldA, exIdxA, exLen, exPick, exUn, exBeq, exMM, exSeq, seqGo, exExt, binV, intOp, subc, AV.solid, S0, encI, encB, e0, e4, encIs, h0, h0', hg, hg2]
      rw [Vec.app (xs := (l.reverse.take i).map encI) (hv.frame (fun _ _ => rfl)) (cells_I _) (by simp [AV.cells]) (appOk8 (by simp; omega))]
      simp [AW_seq, AW_reg, AW_regD, AW_block, AW_cond, AW_skip, AW_exit, AW_ret, AW_scp, condR_true, condR_false, AThen_normal, AThen_ret, AThen_exit, ABlock_normal, ABlock_ret, ABlock_exit, AScope_normal, AScope_ret, AScope_exit, RetK_ret, RetK_normal, retAV_one, retAV_two, retAV_three, retAV_nil, RG_nil, RG_op, RG_guard, gdR_tt, gdR_ff, gdR_tf, gdR_ft, gdR_un, RG_call, callQ_clo, contK_ap, opR_some, RD_nil, RD_op0, RD_op1, opD0_some, opD1_some, RD_call, callQD_clo, RD_guard, gdD_tt, gdD_ff, gdD_tf, gdD_ft, gdD_un, psh_nil, psh_cons, Apt_nil, Apt_nilT, Apt_true, Apt_false, Dis_def, runT_val, runT_rd, runT_wr, runT_new, runT_mv, ex, put_some, put_none, ev_t, ev_c, argF_zero, argF_succ, set_g, set_n, cells_v, cells_sl, cells_agg, cells_own, cells_ptr, cells_clo, cells_eptr, cells_mp, putc, exBslice, lfill, exField, exIdxV, exIdxP, exBox, exAlloc, exLoad, exStore, exFieldA, exIdxA, exLen, exPick, exUn, exBeq, exMM, exSeq, seqGo, exExt, binV, intOp, subc, AV.solid, S0, encI, encB, e4]
      rw [wrap_in _ (by omega)]
      refine ⟨hlt, ?_, ?_, ?_⟩
      · simp [put_some, e0, encIs]
      · simp [put_some, encI]; omega
      · rw [hr, List.map_append]
        simp only [put_some, if_true]
        exact .mk' (by simp [set_g, encI]) (by simp)
    · have h0 : ¬ (0 : Int) ≤ (l.length : Int) - 1 - i := by omega
      have h0' : ¬ (i : Int) ≤ (l.length : Int) - 1 := by omega
      have ht : l.reverse.take i = l.reverse := List.take_of_length_le (by simp; omega)
      rw [ht] at hv
      simp [AW_seq, AW_reg, AW_regD, AW_block, AW_cond, AW_skip, AW_exit, AW_ret, AW_scp, condR_true, condR_false, AThen_normal, AThen_ret, AThen_exit, ABlock_normal, ABlock_ret, ABlock_exit, AScope_normal, AScope_ret, AScope_exit, RetK_ret, RetK_normal, retAV_one, retAV_two, retAV_three, retAV_nil, RG_nil, RG_op, RG_guard, gdR_tt, gdR_ff, gdR_tf, gdR_ft, gdR_un, RG_call, callQ_clo, contK_ap, opR_some, RD_nil, RD_op0, RD_op1, opD0_some, opD1_some, RD_call, callQD_clo, RD_guard, gdD_tt, gdD_ff, gdD_tf, gdD_ft, gdD_un, psh_nil, psh_cons, Apt_nil, Apt_nilT, Apt_true, Apt_false, Dis_def, runT_val, runT_rd, runT_wr, runT_new, runT_mv, ex, put_some, put_none, ev_t, ev_c, argF_zero, argF_succ, set_g, set_n, cells_v, cells_sl, cells_agg, cells_own, cells_ptr, cells_clo, cells_eptr, cells_mp, putc, exBslice, lfill, exField, exIdxV, exIdxP, exBox, exAlloc, exLoad, exStore, exFieldA, exIdxA, exLen, exPick, exUn, exBeq, exMM, exSeq, seqGo, exExt, binV, intOp, subc, AV.solid, S0, encI, encB, e0, e4, encIs, h0, h0']
      rw [← List.map_reverse]
      exact (hv.frame (fun _ _ => rfl)).fz closed_I
end Go.Rf

