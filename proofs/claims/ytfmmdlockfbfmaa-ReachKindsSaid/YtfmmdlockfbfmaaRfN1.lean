import Derived.Test.YtfmmdlockfbfmaaRfSetF
import Derived.Test.YtfmmdlockfbfmaaRfClone
import Derived.Test.YtfmmdlockfbfmaaRfB1
import Derived.Test.YtfmmdlockfbfmaaRfB3
import Derived.Test.YtfmmdlockfbfmaaRfSort
/- Own work: automata that may choose: what looks at them. -/
set_option linter.unusedVariables false
set_option linter.unusedSimpArgs false
namespace Go.Rf
open Go.RowKit

/-- A loop, its rounds counted. -/
def FNext (n : Nat) (I : Nat → AF → St → Prop) (k : Nat) : AF → St → Prop := fun f S => k < n ∧ I (k + 1) f S
theorem AW_for {P : Program} {x : AC} {Q : Exit → AF → St → Prop} {f : AF} {S : St} (n : Nat) (I : Nat → AF → St → Prop) (h0 : I 0 f S) (h : ∀ k f S, k ≤ n → I k f S → AW P x (AThen (FNext n I k) Q) f S) : AW P (.loop x) Q f S := by
  refine AW_loop (fun m f S => ∃ k, k ≤ n ∧ m = n - k ∧ I k f S) n ⟨0, by omega, by omega, h0⟩ ?_
  rintro m f S ⟨k, hk, rfl, hi⟩
  refine AW_mono _ (fun e a S' hq => ?_) (h k f S hk hi)
  cases e <;> simp only [AThen] at hq ⊢ <;> first | exact hq | skip
  obtain ⟨h1, h2⟩ := hq
  exact ⟨n - (k + 1), by omega, k + 1, by omega, rfl, h2⟩
def c_slices_Index_Sint_int_ : AC :=
  (.seq (.reg none [
   ⟨(some 4), .mv (.c (.v (.int .i64 0))), none, none⟩])
  (.seq (.seq (.reg none [
   ⟨(some 6), .mv (.t 0), none, none⟩,
   ⟨(some 7), .len (.t 6), none, none⟩,
   ⟨(some 8), .mv (.c (.v (.int .i64 0))), none, none⟩])
  (.block 0 (.loop (.seq (.reg none [
     ⟨(some 9), .bin .lss (.t 8) (.t 7), none, none⟩])
    (.seq (.cond (.t 9) .skip (.exit 0))
    (.seq (.block 1 (.seq (.reg none [
      ⟨(some 10), .mv (.t 8), none, none⟩,
      ⟨(some 5), .mv (.t 10), none, none⟩])
     (.seq (.reg none [
      ⟨(some 11), .mv (.t 1), none, none⟩,
      ⟨(some 12), .mv (.t 0), none, none⟩,
      ⟨(some 13), .mv (.t 5), none, none⟩,
      ⟨(some 14), .idxA 1 (.t 12) (.t 13), none, none⟩,
      ⟨(some 15), .load none (.t 14), none, none⟩,
      ⟨(some 16), .bin .eql (.t 11) (.t 15), none, none⟩])
     (.cond (.t 16) (.seq (.reg none [
       ⟨(some 17), .mv (.t 5), none, none⟩,
       ⟨(some 4), .mv (.t 17), none, none⟩])
      .ret) .skip))))
    (.reg none [
     ⟨(some 18), .bin .add (.t 8) (.c (.v (.int .i64 1))), none, none⟩,
     ⟨(some 8), .mv (.t 18), none, none⟩])))))))
  (.seq (.reg none [
   ⟨(some 4), .mv (.c (.v (.int .i64 (-1)))), none, none⟩])
  .ret)))
def c_slices_Contains_Sint_int_ (f_slices_Index_Sint_int_ : FuncId) : AC :=
  (.seq (.reg none [
   ⟨(some 4), .mv (.c (.v (.bool false))), none, none⟩])
  (.seq (.reg none [
   ⟨(some 5), .mv (.t 0), none, none⟩,
   ⟨(some 6), .mv (.t 1), none, none⟩,
   ⟨(some 7), .mv (.c .junk), none, (some ((.c (.clo f_slices_Index_Sint_int_ [] [])), [(.t 5), (.t 6)]))⟩,
   ⟨(some 8), .bin .geq (.t 7) (.c (.v (.int .i64 0))), none, none⟩,
   ⟨(some 4), .mv (.t 8), none, none⟩])
  .ret))
theorem hasI_any (l : List Int) (x : Int) : l.any (fun y => x == y) = l.contains x := by
  rw [Bool.eq_iff_iff]; simp
def ixI (l : List Int) (x : Int) (i : Nat) (f : AF) (S : St) : Prop := f 8 = encI i ∧ f 7 = encI l.length ∧ f 0 = encIs l ∧ f 1 = encI x ∧ ∀ k (h : k < l.length), k < i → l[k] ≠ x
theorem slices_Index_body {P : Program} (l : List Int) (x : Int) (hl : Len l) : AW P c_slices_Index_Sint_int_ (RetK [4] (FzK (encI (idxF (fun y => x == y) l)))) (argF [encIs l, encI x]) S0 := by
  unfold Len at hl
  simp [AW_seq, AW_reg, AW_regD, AW_block, AW_cond, AW_skip, AW_exit, AW_ret, AW_scp, condR_true, condR_false, AThen_normal, AThen_ret, AThen_exit, ABlock_normal, ABlock_ret, ABlock_exit, AScope_normal, AScope_ret, AScope_exit, RetK_ret, RetK_normal, retAV_one, retAV_two, retAV_three, retAV_nil, RG_nil, RG_op, RG_guard, gdR_tt, gdR_ff, gdR_tf, gdR_ft, gdR_un, RG_call, callQ_clo, contK_ap, opR_some, RD_nil, RD_op0, RD_op1, opD0_some, opD1_some, RD_call, callQD_clo, RD_guard, gdD_tt, gdD_ff, gdD_tf, gdD_ft, gdD_un, psh_nil, psh_cons, Apt_nil, Apt_nilT, Apt_true, Apt_false, Dis_def, runT_val, runT_rd, runT_wr, runT_new, runT_mv, ex, put_some, put_none, ev_t, ev_c, argF_zero, argF_succ, set_g, set_n, cells_v, cells_sl, cells_agg, cells_own, cells_ptr, cells_clo, cells_eptr, cells_mp, putc, exBslice, lfill, exField, exIdxV, exIdxP, exBox, exAlloc, exLoad, exStore, exFieldA, exIdxA, exLen, exPick, exUn, exBeq, exMM, exSeq, seqGo, exExt, binV, intOp, subc, AV.solid, S0, encI, encB, c_slices_Index_Sint_int_, encIs]
  refine AW_for l.length (ixI l x) ?_ ?_
  · refine ⟨?_, ?_, ?_, ?_, by omega⟩ <;> simp [put_some, argF_zero, argF_succ, encI, encIs]
  · rintro i f S hi ⟨e8, e7, e0, e1, hq⟩
    by_cases hlt : i < l.length
    · by_cases hb : x = l[i]
      · have hi2 : idxF (fun y => x == y) l = i := by
          have h1 : l.any (fun y => x == y) = true := List.any_eq_true.mpr ⟨_, List.getElem_mem hlt, by simp [hb]⟩
          have h2 : l.findIdx (fun y => x == y) = i := (List.findIdx_eq hlt).mpr ⟨by simp [hb], fun j hj => by have := hq j (by omega) hj; simp; exact fun e => this e.symm⟩
          simp [idxF, h1, h2]
        have hb2 : (x == l[i]) = true := by simp [hb]
        simp [AW_seq, AW_reg, AW_regD, AW_block, AW_cond, AW_skip, AW_exit, AW_ret, AW_scp, condR_true, condR_false, AThen_normal, AThen_ret, AThen_exit, ABlock_normal, ABlock_ret, ABlock_exit, AScope_normal, AScope_ret, AScope_exit, RetK_ret, RetK_normal, retAV_one, retAV_two, retAV_three, retAV_nil, RG_nil, RG_op, RG_guard, gdR_tt, gdR_ff, gdR_tf, gdR_ft, gdR_un, RG_call, callQ_clo, contK_ap, opR_some, RD_nil, RD_op0, RD_op1, opD0_some, opD1_some, RD_call, callQD_clo, RD_guard, gdD_tt, gdD_ff, gdD_tf, gdD_ft, gdD_un, psh_nil, psh_cons, Apt_nil, Apt_nilT, Apt_true, Apt_false, Dis_def, runT_val, runT_rd, runT_wr, runT_new, runT_mv, ex, put_some, put_none, ev_t, ev_c, argF_zero, argF_succ, set_g, set_n, cells_v, cells_sl, cells_agg, cells_own, cells_ptr, cells_clo, cells_eptr, cells_mp, putc, exBslice, lfill, exField, exIdxV, exIdxP, exBox, exAlloc, exLoad, exStore, exFieldA, exIdxA, exLen, exPick, exUn, exBeq, exMM, exSeq, seqGo, exExt, binV, intOp, subc, AV.solid, S0, encI, encB, e8, e7, e0, e1, hlt, encIs, hb2]
        simp [put_some, e8, encI, hi2]
        exact FzK_I _ _
      · have hb2 : (x == l[i]) = false := by simp [hb]
        simp [AW_seq, AW_reg, AW_regD, AW_block, AW_cond, AW_skip, AW_exit, AW_ret, AW_scp, condR_true, condR_false, AThen_normal, AThen_ret, AThen_exit, ABlock_normal, ABlock_ret, ABlock_exit, AScope_normal, AScope_ret, AScope_exit, RetK_ret, RetK_normal, retAV_one, retAV_two, retAV_three, retAV_nil, RG_nil, RG_op, RG_guard, gdR_tt, gdR_ff, gdR_tf, gdR_ft, gdR_un, RG_call, callQ_clo, contK_ap, opR_some, RD_nil, RD_op0, RD_op1, opD0_some, opD1_some, RD_call, callQD_clo, RD_guard, gdD_tt, gdD_ff, gdD_tf, gdD_ft, gdD_un, psh_nil, psh_cons, Apt_nil, Apt_nilT, Apt_true, Apt_false, Dis_def, runT_val, runT_rd, runT_wr, runT_new, runT_mv, ex, put_some, put_none, ev_t, ev_c, argF_zero, argF_succ, set_g, set_n, cells_v, cells_sl, cells_agg, cells_own, cells_ptr, cells_clo, cells_eptr, cells_mp, putc, exBslice, lfill, exField, exIdxV, exIdxP, exBox, exAlloc, exLoad, exStore, exFieldA, exIdxA, exLen, exPick, exUn, exBeq, exMM, exSeq, seqGo, exExt, binV, intOp, subc, AV.solid, S0, encI, encB, e8, e7, e0, e1, hlt, encIs, hb2]
        rw [wrap_in _ (by omega)]
        refine ⟨hlt, ?_, ?_, ?_, ?_, fun k h hk => ?_⟩
        · simp [put_some, encI]
        · simp [put_some, e7]
        · simp [put_some, e0]
        · simp [put_some, e1]
        · by_cases hki : k = i
          · subst hki; exact fun e => hb e.symm
          · exact hq k h (by omega)
    · have hi2 : idxF (fun y => x == y) l = -1 := by
        have h1 : l.any (fun y => x == y) = false := by
          rw [List.any_eq_false]
          intro y hy
          obtain ⟨k, hk, rfl⟩ := List.mem_iff_getElem.mp hy
          have := hq k hk (by omega)
          simp; exact fun e => this e.symm
        simp [idxF, h1]
      simp [AW_seq, AW_reg, AW_regD, AW_block, AW_cond, AW_skip, AW_exit, AW_ret, AW_scp, condR_true, condR_false, AThen_normal, AThen_ret, AThen_exit, ABlock_normal, ABlock_ret, ABlock_exit, AScope_normal, AScope_ret, AScope_exit, RetK_ret, RetK_normal, retAV_one, retAV_two, retAV_three, retAV_nil, RG_nil, RG_op, RG_guard, gdR_tt, gdR_ff, gdR_tf, gdR_ft, gdR_un, RG_call, callQ_clo, contK_ap, opR_some, RD_nil, RD_op0, RD_op1, opD0_some, opD1_some, RD_call, callQD_clo, RD_guard, gdD_tt, gdD_ff, gdD_tf, gdD_ft, gdD_un, psh_nil, psh_cons, Apt_nil, Apt_nilT, Apt_true, Apt_false, Dis_def, runT_val, runT_rd, runT_wr, runT_new, runT_mv, ex, put_some, put_none, ev_t, ev_c, argF_zero, argF_succ, set_g, set_n, cells_v, cells_sl, cells_agg, cells_own, cells_ptr, cells_clo, cells_eptr, cells_mp, putc, exBslice, lfill, exField, exIdxV, exIdxP, exBox, exAlloc, exLoad, exStore, exFieldA, exIdxA, exLen, exPick, exUn, exBeq, exMM, exSeq, seqGo, exExt, binV, intOp, subc, AV.solid, S0, encI, encB, e8, e7, e0, e1, hlt, encIs, hi2]
      exact FzK_I _ _
theorem slices_Contains_body {P : Program} {fi : FuncId} (l : List Int) (x : Int) (h : PureC P fi [encIs l, encI x] (encI (idxF (fun y => x == y) l))) : AW P (c_slices_Contains_Sint_int_ fi) (RetK [4] (FzK (encB (l.contains x)))) (argF [encIs l, encI x]) S0 := by
  simp [AW_seq, AW_reg, AW_regD, AW_block, AW_cond, AW_skip, AW_exit, AW_ret, AW_scp, condR_true, condR_false, AThen_normal, AThen_ret, AThen_exit, ABlock_normal, ABlock_ret, ABlock_exit, AScope_normal, AScope_ret, AScope_exit, RetK_ret, RetK_normal, retAV_one, retAV_two, retAV_three, retAV_nil, RG_nil, RG_op, RG_guard, gdR_tt, gdR_ff, gdR_tf, gdR_ft, gdR_un, RG_call, callQ_clo, contK_ap, opR_some, RD_nil, RD_op0, RD_op1, opD0_some, opD1_some, RD_call, callQD_clo, RD_guard, gdD_tt, gdD_ff, gdD_tf, gdD_ft, gdD_un, psh_nil, psh_cons, Apt_nil, Apt_nilT, Apt_true, Apt_false, Dis_def, runT_val, runT_rd, runT_wr, runT_new, runT_mv, ex, put_some, put_none, ev_t, ev_c, argF_zero, argF_succ, set_g, set_n, cells_v, cells_sl, cells_agg, cells_own, cells_ptr, cells_clo, cells_eptr, cells_mp, putc, exBslice, lfill, exField, exIdxV, exIdxP, exBox, exAlloc, exLoad, exStore, exFieldA, exIdxA, exLen, exPick, exUn, exBeq, exMM, exSeq, seqGo, exExt, binV, intOp, subc, AV.solid, S0, encI, encB, c_slices_Contains_Sint_int_]
  refine CallR.pure h (cl_cons (closed_Is _) (cl_cons (closed_I _) cl_nil)) (closed_I _) ?_
  simp [AW_seq, AW_reg, AW_regD, AW_block, AW_cond, AW_skip, AW_exit, AW_ret, AW_scp, condR_true, condR_false, AThen_normal, AThen_ret, AThen_exit, ABlock_normal, ABlock_ret, ABlock_exit, AScope_normal, AScope_ret, AScope_exit, RetK_ret, RetK_normal, retAV_one, retAV_two, retAV_three, retAV_nil, RG_nil, RG_op, RG_guard, gdR_tt, gdR_ff, gdR_tf, gdR_ft, gdR_un, RG_call, callQ_clo, contK_ap, opR_some, RD_nil, RD_op0, RD_op1, opD0_some, opD1_some, RD_call, callQD_clo, RD_guard, gdD_tt, gdD_ff, gdD_tf, gdD_ft, gdD_un, psh_nil, psh_cons, Apt_nil, Apt_nilT, Apt_true, Apt_false, Dis_def, runT_val, runT_rd, runT_wr, runT_new, runT_mv, ex, put_some, put_none, ev_t, ev_c, argF_zero, argF_succ, set_g, set_n, cells_v, cells_sl, cells_agg, cells_own, cells_ptr, cells_clo, cells_eptr, cells_mp, putc, exBslice, lfill, exField, exIdxV, exIdxP, exBox, exAlloc, exLoad, exStore, exFieldA, exIdxA, exLen, exPick, exUn, exBeq, exMM, exSeq, seqGo, exExt, binV, intOp, subc, AV.solid, S0, encI, encB]
  have e : decide (x ∈ l) = decide (0 ≤ idxF (fun y => x == y) l) := by rw [idxF_nonneg, hasI_any]; simp
  rw [e]
  exact FzK_B _ _
/-! ### numbers, rising, each once -/
structure HSet (P : Program) (fc fs fm : FuncId) : Prop where
  clone : ByC P fc (c_cloneOv 1 8 (.v (.int .i64 0))) [.t 2] 1
  sort : HSort P fs
  comp : HComp P fm
  sort0 : PureC P fs [.sl true []] (.tup [])
  comp0 : PureC P fm [.sl true []] (.sl true [])
end Go.Rf

