import Derived.Test.YtfmmdlockfbfmaaRfV2
import Derived.Test.YtfmmdlockfbfmaaRfR17
/- Own work: the walks of layer 11's statements. -/
set_option linter.unusedVariables false
set_option linter.unusedSimpArgs false
namespace Go.Rf
open Go.RowKit

def c_caesuralaw11_ReachParts (f_caesuralaw11_alive f_caesuraref08_Weight f_reach_Matches f_reach_Null : FuncId) : AC :=
  (.seq (.reg none [
   ⟨(some 3), .box 4 (.t 0), none, none⟩,
   ⟨(some 5), .box 2 (.t 2), none, none⟩,
   ⟨(some 6), .mv (.c (.v (.bool false))), none, none⟩])
  (.seq (.seq (.reg none [
   ⟨(some 12), .mv (.c .junk), none, (some ((.c (.clo f_caesuralaw11_alive [] [])), []))⟩,
   ⟨(some 13), .un .not (.t 12), none, none⟩])
  (.cond (.t 13) (.seq (.reg none [
    ⟨(some 6), .mv (.c (.v (.bool false))), none, none⟩])
   .ret) .skip))
  (.seq (.seq (.reg none [
   ⟨(some 14), .load (some 4) (.t 3), none, none⟩,
   ⟨(some 15), .mv (.c .junk), none, (some ((.c (.clo f_caesuraref08_Weight [] [])), [(.t 14), (.c (.v (.int .i64 0)))]))⟩,
   ⟨(some 16), .bin .gtr (.t 15) (.c (.v (.int .i64 300))), none, none⟩,
   ⟨(some 17), .mv (.t 16), none, none⟩,
   ⟨(some 18), .mv (.t 1), (some (17, false)), none⟩,
   ⟨(some 19), .len (.t 18), (some (17, false)), none⟩,
   ⟨(some 20), .bin .gtr (.t 19) (.c (.v (.int .i64 15))), (some (17, false)), none⟩,
   ⟨(some 21), .pick (.t 17) (.c (.v (.bool true))) (.t 20), none, none⟩])
  (.cond (.t 21) (.seq (.reg none [
    ⟨(some 6), .mv (.c (.v (.bool true))), none, none⟩])
   .ret) .skip))
  (.seq (.reg (some []) [
   ⟨(some 22), .idxP 2 1 (.t 5) (.c (.v (.int .i64 0))), none, none⟩,
   ⟨(some 23), .load none (.t 22), none, none⟩,
   ⟨(some 24), .conv .i64 (.t 23), none, none⟩,
   ⟨(some 25), .mv (.t 1), none, none⟩,
   ⟨(some 26), .len (.t 25), none, none⟩,
   ⟨(some 27), .bin .add (.t 26) (.c (.v (.int .i64 1))), none, none⟩,
   ⟨(some 28), .bin .rem (.t 24) (.t 27), none, none⟩,
   ⟨(some 29), .idxP 2 1 (.t 5) (.c (.v (.int .i64 1))), none, none⟩,
   ⟨(some 30), .load none (.t 29), none, none⟩,
   ⟨(some 31), .conv .i64 (.t 30), none, none⟩,
   ⟨(some 32), .mv (.t 1), none, none⟩,
   ⟨(some 33), .len (.t 32), none, none⟩,
   ⟨(some 34), .bin .add (.t 33) (.c (.v (.int .i64 1))), none, none⟩,
   ⟨(some 35), .bin .rem (.t 31) (.t 34), none, none⟩,
   ⟨(some 7), .mv (.t 28), none, none⟩,
   ⟨(some 8), .mv (.t 35), none, none⟩])
  (.seq (.reg none [
   ⟨(some 36), .mv (.t 7), none, none⟩,
   ⟨(some 37), .mv (.t 8), none, none⟩,
   ⟨(some 38), .mm false (.t 36) (.t 37), none, none⟩,
   ⟨(some 39), .mv (.t 7), none, none⟩,
   ⟨(some 40), .mv (.t 8), none, none⟩,
   ⟨(some 41), .mm true (.t 39) (.t 40), none, none⟩,
   ⟨(some 9), .mv (.t 38), none, none⟩,
   ⟨(some 10), .mv (.t 41), none, none⟩])
  (.seq (.reg none [
   ⟨(some 42), .load (some 4) (.t 3), none, none⟩,
   ⟨(some 43), .mv (.t 1), none, none⟩,
   ⟨(some 44), .mv (.t 9), none, none⟩,
   ⟨(some 45), .mv (.t 10), none, none⟩,
   ⟨(some 46), .mv (.c .junk), none, (some ((.c (.clo f_reach_Matches [] [])), [(.t 42), (.t 43), (.t 44), (.t 45)]))⟩,
   ⟨(some 11), .mv (.t 46), none, none⟩])
  (.seq (.reg (some []) [
   ⟨(some 47), .mv (.t 11), none, none⟩,
   ⟨(some 48), .load (some 4) (.t 3), none, none⟩,
   ⟨(some 49), .mv (.t 1), none, none⟩,
   ⟨(some 50), .mv (.t 9), none, none⟩,
   ⟨(some 51), .mv (.t 10), none, none⟩,
   ⟨(some 52), .slc 1 (.t 49) (some (.t 50)) (some (.t 51)), none, none⟩,
   ⟨(some 53), .mv (.t 10), none, none⟩,
   ⟨(some 54), .mv (.t 9), none, none⟩,
   ⟨(some 55), .bin .sub (.t 53) (.t 54), none, none⟩,
   ⟨(some 56), .mv (.c .junk), none, (some ((.c (.clo f_reach_Matches [] [])), [(.t 48), (.t 52), (.c (.v (.int .i64 0))), (.t 55)]))⟩,
   ⟨(some 57), .beq false (.t 47) (.t 56), none, none⟩,
   ⟨(some 58), .mv (.t 57), none, none⟩,
   ⟨(some 59), .mv (.t 11), (some (58, true)), none⟩,
   ⟨(some 60), .load (some 4) (.t 3), (some (58, true)), none⟩,
   ⟨(some 61), .mv (.t 1), (some (58, true)), none⟩,
   ⟨(some 62), .mv (.t 10), (some (58, true)), none⟩,
   ⟨(some 63), .slc 1 (.t 61) none (some (.t 62)), (some (58, true)), none⟩,
   ⟨(some 64), .mv (.t 9), (some (58, true)), none⟩,
   ⟨(some 65), .mv (.t 10), (some (58, true)), none⟩,
   ⟨(some 66), .mv (.c .junk), (some (58, true)), (some ((.c (.clo f_reach_Matches [] [])), [(.t 60), (.t 63), (.t 64), (.t 65)]))⟩,
   ⟨(some 67), .beq false (.t 59) (.t 66), (some (58, true)), none⟩,
   ⟨(some 68), .pick (.t 58) (.t 67) (.c (.v (.bool false))), none, none⟩,
   ⟨(some 69), .mv (.t 68), none, none⟩,
   ⟨(some 70), .mv (.t 9), (some (69, true)), none⟩,
   ⟨(some 71), .mv (.t 10), (some (69, true)), none⟩,
   ⟨(some 72), .bin .neq (.t 70) (.t 71), (some (69, true)), none⟩,
   ⟨(some 73), .mv (.t 72), (some (69, true)), none⟩,
   ⟨(some 74), .mv (.t 11), (some (73, false)), none⟩,
   ⟨(some 75), .load (some 4) (.t 3), (some (73, false)), none⟩,
   ⟨(some 76), .mv (.c .junk), (some (73, false)), (some ((.c (.clo f_reach_Null [] [])), [(.t 75)]))⟩,
   ⟨(some 77), .beq false (.t 74) (.t 76), (some (73, false)), none⟩,
   ⟨(some 78), .pick (.t 73) (.c (.v (.bool true))) (.t 77), (some (69, true)), none⟩,
   ⟨(some 79), .pick (.t 69) (.t 78) (.c (.v (.bool false))), none, none⟩,
   ⟨(some 80), .mv (.t 79), none, none⟩,
   ⟨(some 81), .load (some 4) (.t 3), (some (80, true)), none⟩,
   ⟨(some 82), .mv (.t 1), (some (80, true)), none⟩,
   ⟨(some 83), .mv (.t 10), (some (80, true)), none⟩,
   ⟨(some 84), .mv (.c .junk), (some (80, true)), (some ((.c (.clo f_reach_Matches [] [])), [(.t 81), (.t 82), (.c (.v (.int .i64 (-1)))), (.t 83)]))⟩,
   ⟨(some 85), .un .not (.t 84), (some (80, true)), none⟩,
   ⟨(some 86), .pick (.t 80) (.t 85) (.c (.v (.bool false))), none, none⟩,
   ⟨(some 87), .mv (.t 86), none, none⟩,
   ⟨(some 88), .load (some 4) (.t 3), (some (87, true)), none⟩,
   ⟨(some 89), .mv (.t 1), (some (87, true)), none⟩,
   ⟨(some 90), .mv (.t 9), (some (87, true)), none⟩,
   ⟨(some 91), .mv (.t 1), (some (87, true)), none⟩,
   ⟨(some 92), .len (.t 91), (some (87, true)), none⟩,
   ⟨(some 93), .bin .add (.t 92) (.c (.v (.int .i64 1))), (some (87, true)), none⟩,
   ⟨(some 94), .mv (.c .junk), (some (87, true)), (some ((.c (.clo f_reach_Matches [] [])), [(.t 88), (.t 89), (.t 90), (.t 93)]))⟩,
   ⟨(some 95), .un .not (.t 94), (some (87, true)), none⟩,
   ⟨(some 96), .pick (.t 87) (.t 95) (.c (.v (.bool false))), none, none⟩,
   ⟨(some 6), .mv (.t 96), none, none⟩])
  .ret)))))))
theorem slcP {l : List Int} (a b : Nat) (hab : a ≤ b) (hb : b ≤ l.length) (S : St) (nid : Nat) : (exSlc 1 (.sl false (l.map encI)) (some (.v (.int .i64 (a : Int)))) (some (.v (.int .i64 (b : Int))))).run S nid = some (.sl false (((l.drop a).take (b - a)).map encI), S) := by
  simp only [exSlc, Eff.run_val, bnd, Option.bind_some]
  rw [if_pos (by omega), if_pos (by omega)]
  simp only [Option.bind_some]
  rw [if_pos ⟨by omega, by simp; omega, cells_I l⟩]
  simp [List.drop_take, List.map_take, List.map_drop]
theorem slcT {l : List Int} (b : Nat) (hb : b ≤ l.length) (S : St) (nid : Nat) : (exSlc 1 (.sl false (l.map encI)) none (some (.v (.int .i64 (b : Int))))).run S nid = some (.sl false ((l.take b).map encI), S) := by
  simp only [exSlc, Eff.run_val, bnd, Option.bind_some]
  rw [if_pos (by omega)]
  simp only [Option.bind_some]
  rw [if_pos ⟨by omega, by simp; omega, cells_I l⟩]
  simp [List.map_take]
theorem tmod_nat (x : Int) (n : Nat) (h0 : 0 ≤ x) : ∃ k : Nat, k ≤ n ∧ Int.tmod x ((n : Int) + 1) = (k : Int) := by
  have h1 := Int.tmod_lt_of_pos x (b := (n : Int) + 1) (by omega)
  have h2 := Int.tmod_nonneg ((n : Int) + 1) h0
  exact ⟨(Int.tmod x ((n : Int) + 1)).toNat, by omega, by omega⟩
theorem ReachParts_body {P : Program} {fl fw fm fn : FuncId} (p : Pat) (l : List Int) (u v : Int) (hu : 0 ≤ u ∧ u ≤ 255) (hv : 0 ≤ v ∧ v ≤ 255) (hl : PureC P fl [] (encB true)) (w : Int) (hw : PureC P fw [encPat p, encI 0] (encI w))
    (H : w ≤ 300 → l.length ≤ 15 → (∀ (m : List Int) (a b : Int), m.length ≤ 15 → PureC P fm [encPat p, encIs m, encI a, encI b] (encB (matP p m a b))) ∧ PureC P fn [encPat p] (encB (matP p [] 0 0))) :
    AW P (c_caesuralaw11_ReachParts fl fw fm fn) (RetK [6] (FzK (encB true))) (argF [encPat p, encIs l, .agg [.v (.int .u8 u), .v (.int .u8 v)]]) S0 := by
  obtain ⟨x1, x2, x3, x4, hx⟩ := encPat_4 p
  have hc := closed_Pat p
  rw [hx] at hw hc H
  simp only [encI] at hw
  simp [AW_seq, AW_reg, AW_regD, AW_block, AW_cond, AW_skip, AW_exit, AW_ret, AW_scp, condR_true, condR_false, AThen_normal, AThen_ret, AThen_exit, ABlock_normal, ABlock_ret, ABlock_exit, AScope_normal, AScope_ret, AScope_exit, RetK_ret, RetK_normal, retAV_one, retAV_two, retAV_three, retAV_nil, RG_nil, RG_op, RG_guard, gdR_tt, gdR_ff, gdR_tf, gdR_ft, gdR_un, RG_call, callQ_clo, contK_ap, opR_some, RD_nil, RD_op0, RD_op1, opD0_some, opD1_some, RD_call, callQD_clo, RD_guard, gdD_tt, gdD_ff, gdD_tf, gdD_ft, gdD_un, psh_nil, psh_cons, Apt_nil, Apt_nilT, Apt_true, Apt_false, Dis_def, runT_val, runT_rd, runT_wr, runT_new, runT_mv, ex, put_some, put_none, ev_t, ev_c, argF_zero, argF_succ, set_g, set_n, cells_v, cells_sl, cells_agg, cells_own, cells_ptr, cells_clo, cells_eptr, cells_mp, putc, exBslice, lfill, exField, exIdxV, exIdxP, exBox, exAlloc, exLoad, exStore, exFieldA, exIdxA, exLen, exPick, exUn, exBeq, exMM, exSeq, seqGo, exExt, binV, intOp, subc, AV.solid, S0, encI, encB, c_caesuralaw11_ReachParts, hx]
  refine CallR.pure hl cl_nil (closed_B _) ?_
  simp [AW_seq, AW_reg, AW_regD, AW_block, AW_cond, AW_skip, AW_exit, AW_ret, AW_scp, condR_true, condR_false, AThen_normal, AThen_ret, AThen_exit, ABlock_normal, ABlock_ret, ABlock_exit, AScope_normal, AScope_ret, AScope_exit, RetK_ret, RetK_normal, retAV_one, retAV_two, retAV_three, retAV_nil, RG_nil, RG_op, RG_guard, gdR_tt, gdR_ff, gdR_tf, gdR_ft, gdR_un, RG_call, callQ_clo, contK_ap, opR_some, RD_nil, RD_op0, RD_op1, opD0_some, opD1_some, RD_call, callQD_clo, RD_guard, gdD_tt, gdD_ff, gdD_tf, gdD_ft, gdD_un, psh_nil, psh_cons, Apt_nil, Apt_nilT, Apt_true, Apt_false, Dis_def, runT_val, runT_rd, runT_wr, runT_new, runT_mv, ex, put_some, put_none, ev_t, ev_c, argF_zero, argF_succ, set_g, set_n, cells_v, cells_sl, cells_agg, cells_own, cells_ptr, cells_clo, cells_eptr, cells_mp, putc, exBslice, lfill, exField, exIdxV, exIdxP, exBox, exAlloc, exLoad, exStore, exFieldA, exIdxA, exLen, exPick, exUn, exBeq, exMM, exSeq, seqGo, exExt, binV, intOp, subc, AV.solid, S0, encI, encB]
  refine CallR.pure hw (cl_cons hc (cl_cons (closed_I _) cl_nil)) (closed_I _) ?_
  by_cases h1 : 300 < w
  · simp [AW_seq, AW_reg, AW_regD, AW_block, AW_cond, AW_skip, AW_exit, AW_ret, AW_scp, condR_true, condR_false, AThen_normal, AThen_ret, AThen_exit, ABlock_normal, ABlock_ret, ABlock_exit, AScope_normal, AScope_ret, AScope_exit, RetK_ret, RetK_normal, retAV_one, retAV_two, retAV_three, retAV_nil, RG_nil, RG_op, RG_guard, gdR_tt, gdR_ff, gdR_tf, gdR_ft, gdR_un, RG_call, callQ_clo, contK_ap, opR_some, RD_nil, RD_op0, RD_op1, opD0_some, opD1_some, RD_call, callQD_clo, RD_guard, gdD_tt, gdD_ff, gdD_tf, gdD_ft, gdD_un, psh_nil, psh_cons, Apt_nil, Apt_nilT, Apt_true, Apt_false, Dis_def, runT_val, runT_rd, runT_wr, runT_new, runT_mv, ex, put_some, put_none, ev_t, ev_c, argF_zero, argF_succ, set_g, set_n, cells_v, cells_sl, cells_agg, cells_own, cells_ptr, cells_clo, cells_eptr, cells_mp, putc, exBslice, lfill, exField, exIdxV, exIdxP, exBox, exAlloc, exLoad, exStore, exFieldA, exIdxA, exLen, exPick, exUn, exBeq, exMM, exSeq, seqGo, exExt, binV, intOp, subc, AV.solid, S0, encI, encB, h1]
    exact FzK_B true _
  · by_cases h2 : (15 : Int) < l.length
    · have h2' : 15 < l.length := by omega
      simp [AW_seq, AW_reg, AW_regD, AW_block, AW_cond, AW_skip, AW_exit, AW_ret, AW_scp, condR_true, condR_false, AThen_normal, AThen_ret, AThen_exit, ABlock_normal, ABlock_ret, ABlock_exit, AScope_normal, AScope_ret, AScope_exit, RetK_ret, RetK_normal, retAV_one, retAV_two, retAV_three, retAV_nil, RG_nil, RG_op, RG_guard, gdR_tt, gdR_ff, gdR_tf, gdR_ft, gdR_un, RG_call, callQ_clo, contK_ap, opR_some, RD_nil, RD_op0, RD_op1, opD0_some, opD1_some, RD_call, callQD_clo, RD_guard, gdD_tt, gdD_ff, gdD_tf, gdD_ft, gdD_un, psh_nil, psh_cons, Apt_nil, Apt_nilT, Apt_true, Apt_false, Dis_def, runT_val, runT_rd, runT_wr, runT_new, runT_mv, ex, put_some, put_none, ev_t, ev_c, argF_zero, argF_succ, set_g, set_n, cells_v, cells_sl, cells_agg, cells_own, cells_ptr, cells_clo, cells_eptr, cells_mp, putc, exBslice, lfill, exField, exIdxV, exIdxP, exBox, exAlloc, exLoad, exStore, exFieldA, exIdxA, exLen, exPick, exUn, exBeq, exMM, exSeq, seqGo, exExt, binV, intOp, subc, AV.solid, S0, encI, encB, h1, h2, h2', encIs]
      exact FzK_B true _
    · have h2' : ¬ 15 < l.length := by omega
      obtain ⟨hm, hn⟩ := H (by omega) (by omega)
      obtain ⟨a, ha, hau⟩ := tmod_nat u l.length hu.1
      obtain ⟨b, hb, hbv⟩ := tmod_nat v l.length hv.1
      have hcu : IntKind.i64.wrap u = u := wrap_in _ (by omega)
      have hcv : IntKind.i64.wrap v = v := wrap_in _ (by omega)
      have hw1 := wrap_in ((l.length : Int) + 1) (by omega)
      have hra : IntKind.i64.wrap (a : Int) = a := wrap_in _ (by omega)
      have hrb : IntKind.i64.wrap (b : Int) = b := wrap_in _ (by omega)
      have hne : ¬ ((l.length : Int) + 1 = 0) := by omega
      obtain ⟨s, t, hst, hs, ht, htl⟩ : ∃ s t : Nat, s ≤ t ∧ (if b < a then (b : Int) else (a : Int)) = (s : Int) ∧ (if a < b then (b : Int) else (a : Int)) = (t : Int) ∧ t ≤ l.length := by
        refine ⟨min a b, max a b, by omega, by split <;> omega, by split <;> omega, by omega⟩
      have c0 := hm l (s : Int) (t : Int) (by omega)
      have c1 := hm ((l.drop s).take (t - s)) 0 ((t : Int) - s) (by simp; omega)
      have c2 := hm (l.take t) (s : Int) (t : Int) (by simp; omega)
      have c3 := hm l (-1) (t : Int) (by omega)
      have c4 := hm l (s : Int) ((l.length : Int) + 1) (by omega)
      rw [matP_part p l s t hst htl] at c1
      rw [matP_take p l s t hst htl] at c2
      rw [matP_neg] at c3
      rw [matP_far p l _ _ (by omega)] at c4
      have hnul : s = t → matP p l s t = matP p [] 0 0 := fun e => by rw [e]; exact matP_null p l t htl
      have k1 := fun S nid => slcP (l := l) s t hst htl S nid
      have k2 := fun S nid => slcT (l := l) t htl S nid
      have hsub := wrap_in ((t : Int) - s) (by omega)
      generalize matP p l s t = z at *
      simp only [encIs, encI] at c0 c1 c2 c3 c4
      have cl : ∀ m : List Int, ∀ a b : Int, ∀ y ∈ [AV.agg [x1, x2, x3, x4], .sl false (m.map encI), .v (.int .i64 a), .v (.int .i64 b)], Closed y := fun m a b => cl_cons hc (cl_cons (closed_Is m) (cl_cons (closed_I a) (cl_cons (closed_I b) cl_nil)))
      simp [AW_seq, AW_reg, AW_regD, AW_block, AW_cond, AW_skip, AW_exit, AW_ret, AW_scp, condR_true, condR_false, AThen_normal, AThen_ret, AThen_exit, ABlock_normal, ABlock_ret, ABlock_exit, AScope_normal, AScope_ret, AScope_exit, RetK_ret, RetK_normal, retAV_one, retAV_two, retAV_three, retAV_nil, RG_nil, RG_op, RG_guard, gdR_tt, gdR_ff, gdR_tf, gdR_ft, gdR_un, RG_call, callQ_clo, contK_ap, opR_some, RD_nil, RD_op0, RD_op1, opD0_some, opD1_some, RD_call, callQD_clo, RD_guard, gdD_tt, gdD_ff, gdD_tf, gdD_ft, gdD_un, psh_nil, psh_cons, Apt_nil, Apt_nilT, Apt_true, Apt_false, Dis_def, runT_val, runT_rd, runT_wr, runT_new, runT_mv, ex, put_some, put_none, ev_t, ev_c, argF_zero, argF_succ, set_g, set_n, cells_v, cells_sl, cells_agg, cells_own, cells_ptr, cells_clo, cells_eptr, cells_mp, putc, exBslice, lfill, exField, exIdxV, exIdxP, exBox, exAlloc, exLoad, exStore, exFieldA, exIdxA, exLen, exPick, exUn, exBeq, exMM, exSeq, seqGo, exExt, binV, intOp, subc, AV.solid, S0, encI, encB, h1, h2, h2', encIs, exConv, hcu, hcv, hw1, hau, hbv, hra, hrb, hne, hs, ht]
      refine CallR.pure c0 (cl _ _ _) (closed_B _) ?_
      have d1 : ∀ n g, CallD P fm _ ⟨n, g⟩ [] _ := fun n g => CallD.kl c1 (cl _ _ _) (closed_B z)
      have d2 : ∀ n g, CallD P fm _ ⟨n, g⟩ [] _ := fun n g => CallD.kl c2 (cl _ _ _) (closed_B z)
      have d3 : ∀ n g, CallD P fm _ ⟨n, g⟩ [] _ := fun n g => CallD.kl c3 (cl _ _ _) (closed_B false)
      have d4 : ∀ n g, CallD P fm _ ⟨n, g⟩ [] _ := fun n g => CallD.kl c4 (cl _ _ _) (closed_B false)
      have d5 : ∀ n g, CallD P fn _ ⟨n, g⟩ [] _ := fun n g => CallD.kl hn (cl_cons hc cl_nil) (closed_B (matP p [] 0 0))
      simp only [List.map_take, List.map_drop] at d1 d2
      have zz : (z == z) = true := by simp
      simp [AW_seq, AW_reg, AW_regD, AW_block, AW_cond, AW_skip, AW_exit, AW_ret, AW_scp, condR_true, condR_false, AThen_normal, AThen_ret, AThen_exit, ABlock_normal, ABlock_ret, ABlock_exit, AScope_normal, AScope_ret, AScope_exit, RetK_ret, RetK_normal, retAV_one, retAV_two, retAV_three, retAV_nil, RG_nil, RG_op, RG_guard, gdR_tt, gdR_ff, gdR_tf, gdR_ft, gdR_un, RG_call, callQ_clo, contK_ap, opR_some, RD_nil, RD_op0, RD_op1, opD0_some, opD1_some, RD_call, callQD_clo, RD_guard, gdD_tt, gdD_ff, gdD_tf, gdD_ft, gdD_un, psh_nil, psh_cons, Apt_nil, Apt_nilT, Apt_true, Apt_false, Dis_def, runT_val, runT_rd, runT_wr, runT_new, runT_mv, ex, put_some, put_none, ev_t, ev_c, argF_zero, argF_succ, set_g, set_n, cells_v, cells_sl, cells_agg, cells_own, cells_ptr, cells_clo, cells_eptr, cells_mp, putc, exBslice, lfill, exField, exIdxV, exIdxP, exBox, exAlloc, exLoad, exStore, exFieldA, exIdxA, exLen, exPick, exUn, exBeq, exMM, exSeq, seqGo, exExt, binV, intOp, subc, AV.solid, S0, encI, encB, k1, k2, hsub, zz]
      refine ⟨encB z, ⟨[], d1 _ _⟩, ?_⟩
      simp [AW_seq, AW_reg, AW_regD, AW_block, AW_cond, AW_skip, AW_exit, AW_ret, AW_scp, condR_true, condR_false, AThen_normal, AThen_ret, AThen_exit, ABlock_normal, ABlock_ret, ABlock_exit, AScope_normal, AScope_ret, AScope_exit, RetK_ret, RetK_normal, retAV_one, retAV_two, retAV_three, retAV_nil, RG_nil, RG_op, RG_guard, gdR_tt, gdR_ff, gdR_tf, gdR_ft, gdR_un, RG_call, callQ_clo, contK_ap, opR_some, RD_nil, RD_op0, RD_op1, opD0_some, opD1_some, RD_call, callQD_clo, RD_guard, gdD_tt, gdD_ff, gdD_tf, gdD_ft, gdD_un, psh_nil, psh_cons, Apt_nil, Apt_nilT, Apt_true, Apt_false, Dis_def, runT_val, runT_rd, runT_wr, runT_new, runT_mv, ex, put_some, put_none, ev_t, ev_c, argF_zero, argF_succ, set_g, set_n, cells_v, cells_sl, cells_agg, cells_own, cells_ptr, cells_clo, cells_eptr, cells_mp, putc, exBslice, lfill, exField, exIdxV, exIdxP, exBox, exAlloc, exLoad, exStore, exFieldA, exIdxA, exLen, exPick, exUn, exBeq, exMM, exSeq, seqGo, exExt, binV, intOp, subc, AV.solid, S0, encI, encB, k1, k2, hsub, zz]
      refine ⟨encB z, ⟨[], d2 _ _⟩, ?_⟩
      by_cases hse : s = t
      · have hz := hnul hse
        subst hse
        subst hz
        have n1 : ((s : Int) != (s : Int)) = false := by simp
        simp [AW_seq, AW_reg, AW_regD, AW_block, AW_cond, AW_skip, AW_exit, AW_ret, AW_scp, condR_true, condR_false, AThen_normal, AThen_ret, AThen_exit, ABlock_normal, ABlock_ret, ABlock_exit, AScope_normal, AScope_ret, AScope_exit, RetK_ret, RetK_normal, retAV_one, retAV_two, retAV_three, retAV_nil, RG_nil, RG_op, RG_guard, gdR_tt, gdR_ff, gdR_tf, gdR_ft, gdR_un, RG_call, callQ_clo, contK_ap, opR_some, RD_nil, RD_op0, RD_op1, opD0_some, opD1_some, RD_call, callQD_clo, RD_guard, gdD_tt, gdD_ff, gdD_tf, gdD_ft, gdD_un, psh_nil, psh_cons, Apt_nil, Apt_nilT, Apt_true, Apt_false, Dis_def, runT_val, runT_rd, runT_wr, runT_new, runT_mv, ex, put_some, put_none, ev_t, ev_c, argF_zero, argF_succ, set_g, set_n, cells_v, cells_sl, cells_agg, cells_own, cells_ptr, cells_clo, cells_eptr, cells_mp, putc, exBslice, lfill, exField, exIdxV, exIdxP, exBox, exAlloc, exLoad, exStore, exFieldA, exIdxA, exLen, exPick, exUn, exBeq, exMM, exSeq, seqGo, exExt, binV, intOp, subc, AV.solid, S0, encI, encB, zz, n1]
        refine ⟨encB (matP p [] 0 0), ⟨[], d5 _ _⟩, ?_⟩
        simp [AW_seq, AW_reg, AW_regD, AW_block, AW_cond, AW_skip, AW_exit, AW_ret, AW_scp, condR_true, condR_false, AThen_normal, AThen_ret, AThen_exit, ABlock_normal, ABlock_ret, ABlock_exit, AScope_normal, AScope_ret, AScope_exit, RetK_ret, RetK_normal, retAV_one, retAV_two, retAV_three, retAV_nil, RG_nil, RG_op, RG_guard, gdR_tt, gdR_ff, gdR_tf, gdR_ft, gdR_un, RG_call, callQ_clo, contK_ap, opR_some, RD_nil, RD_op0, RD_op1, opD0_some, opD1_some, RD_call, callQD_clo, RD_guard, gdD_tt, gdD_ff, gdD_tf, gdD_ft, gdD_un, psh_nil, psh_cons, Apt_nil, Apt_nilT, Apt_true, Apt_false, Dis_def, runT_val, runT_rd, runT_wr, runT_new, runT_mv, ex, put_some, put_none, ev_t, ev_c, argF_zero, argF_succ, set_g, set_n, cells_v, cells_sl, cells_agg, cells_own, cells_ptr, cells_clo, cells_eptr, cells_mp, putc, exBslice, lfill, exField, exIdxV, exIdxP, exBox, exAlloc, exLoad, exStore, exFieldA, exIdxA, exLen, exPick, exUn, exBeq, exMM, exSeq, seqGo, exExt, binV, intOp, subc, AV.solid, S0, encI, encB, zz]
        refine ⟨encB false, ⟨[], d3 _ _⟩, ?_⟩
        simp [AW_seq, AW_reg, AW_regD, AW_block, AW_cond, AW_skip, AW_exit, AW_ret, AW_scp, condR_true, condR_false, AThen_normal, AThen_ret, AThen_exit, ABlock_normal, ABlock_ret, ABlock_exit, AScope_normal, AScope_ret, AScope_exit, RetK_ret, RetK_normal, retAV_one, retAV_two, retAV_three, retAV_nil, RG_nil, RG_op, RG_guard, gdR_tt, gdR_ff, gdR_tf, gdR_ft, gdR_un, RG_call, callQ_clo, contK_ap, opR_some, RD_nil, RD_op0, RD_op1, opD0_some, opD1_some, RD_call, callQD_clo, RD_guard, gdD_tt, gdD_ff, gdD_tf, gdD_ft, gdD_un, psh_nil, psh_cons, Apt_nil, Apt_nilT, Apt_true, Apt_false, Dis_def, runT_val, runT_rd, runT_wr, runT_new, runT_mv, ex, put_some, put_none, ev_t, ev_c, argF_zero, argF_succ, set_g, set_n, cells_v, cells_sl, cells_agg, cells_own, cells_ptr, cells_clo, cells_eptr, cells_mp, putc, exBslice, lfill, exField, exIdxV, exIdxP, exBox, exAlloc, exLoad, exStore, exFieldA, exIdxA, exLen, exPick, exUn, exBeq, exMM, exSeq, seqGo, exExt, binV, intOp, subc, AV.solid, S0, encI, encB, hw1]
        refine ⟨encB false, ⟨[], d4 _ _⟩, ?_⟩
        simp [AW_seq, AW_reg, AW_regD, AW_block, AW_cond, AW_skip, AW_exit, AW_ret, AW_scp, condR_true, condR_false, AThen_normal, AThen_ret, AThen_exit, ABlock_normal, ABlock_ret, ABlock_exit, AScope_normal, AScope_ret, AScope_exit, RetK_ret, RetK_normal, retAV_one, retAV_two, retAV_three, retAV_nil, RG_nil, RG_op, RG_guard, gdR_tt, gdR_ff, gdR_tf, gdR_ft, gdR_un, RG_call, callQ_clo, contK_ap, opR_some, RD_nil, RD_op0, RD_op1, opD0_some, opD1_some, RD_call, callQD_clo, RD_guard, gdD_tt, gdD_ff, gdD_tf, gdD_ft, gdD_un, psh_nil, psh_cons, Apt_nil, Apt_nilT, Apt_true, Apt_false, Dis_def, runT_val, runT_rd, runT_wr, runT_new, runT_mv, ex, put_some, put_none, ev_t, ev_c, argF_zero, argF_succ, set_g, set_n, cells_v, cells_sl, cells_agg, cells_own, cells_ptr, cells_clo, cells_eptr, cells_mp, putc, exBslice, lfill, exField, exIdxV, exIdxP, exBox, exAlloc, exLoad, exStore, exFieldA, exIdxA, exLen, exPick, exUn, exBeq, exMM, exSeq, seqGo, exExt, binV, intOp, subc, AV.solid, S0, encI, encB]
        exact FzK_B true _
      · have n1 : ((s : Int) != (t : Int)) = true := by simp; omega
        have n2 : ¬ ((s : Int) = (t : Int)) := by omega
        simp [AW_seq, AW_reg, AW_regD, AW_block, AW_cond, AW_skip, AW_exit, AW_ret, AW_scp, condR_true, condR_false, AThen_normal, AThen_ret, AThen_exit, ABlock_normal, ABlock_ret, ABlock_exit, AScope_normal, AScope_ret, AScope_exit, RetK_ret, RetK_normal, retAV_one, retAV_two, retAV_three, retAV_nil, RG_nil, RG_op, RG_guard, gdR_tt, gdR_ff, gdR_tf, gdR_ft, gdR_un, RG_call, callQ_clo, contK_ap, opR_some, RD_nil, RD_op0, RD_op1, opD0_some, opD1_some, RD_call, callQD_clo, RD_guard, gdD_tt, gdD_ff, gdD_tf, gdD_ft, gdD_un, psh_nil, psh_cons, Apt_nil, Apt_nilT, Apt_true, Apt_false, Dis_def, runT_val, runT_rd, runT_wr, runT_new, runT_mv, ex, put_some, put_none, ev_t, ev_c, argF_zero, argF_succ, set_g, set_n, cells_v, cells_sl, cells_agg, cells_own, cells_ptr, cells_clo, cells_eptr, cells_mp, putc, exBslice, lfill, exField, exIdxV, exIdxP, exBox, exAlloc, exLoad, exStore, exFieldA, exIdxA, exLen, exPick, exUn, exBeq, exMM, exSeq, seqGo, exExt, binV, intOp, subc, AV.solid, S0, encI, encB, zz, n1, n2, hse]
        refine ⟨encB false, ⟨[], d3 _ _⟩, ?_⟩
        simp [AW_seq, AW_reg, AW_regD, AW_block, AW_cond, AW_skip, AW_exit, AW_ret, AW_scp, condR_true, condR_false, AThen_normal, AThen_ret, AThen_exit, ABlock_normal, ABlock_ret, ABlock_exit, AScope_normal, AScope_ret, AScope_exit, RetK_ret, RetK_normal, retAV_one, retAV_two, retAV_three, retAV_nil, RG_nil, RG_op, RG_guard, gdR_tt, gdR_ff, gdR_tf, gdR_ft, gdR_un, RG_call, callQ_clo, contK_ap, opR_some, RD_nil, RD_op0, RD_op1, opD0_some, opD1_some, RD_call, callQD_clo, RD_guard, gdD_tt, gdD_ff, gdD_tf, gdD_ft, gdD_un, psh_nil, psh_cons, Apt_nil, Apt_nilT, Apt_true, Apt_false, Dis_def, runT_val, runT_rd, runT_wr, runT_new, runT_mv, ex, put_some, put_none, ev_t, ev_c, argF_zero, argF_succ, set_g, set_n, cells_v, cells_sl, cells_agg, cells_own, cells_ptr, cells_clo, cells_eptr, cells_mp, putc, exBslice, lfill, exField, exIdxV, exIdxP, exBox, exAlloc, exLoad, exStore, exFieldA, exIdxA, exLen, exPick, exUn, exBeq, exMM, exSeq, seqGo, exExt, binV, intOp, subc, AV.solid, S0, encI, encB, hw1]
        refine ⟨encB false, ⟨[], d4 _ _⟩, ?_⟩
        simp [AW_seq, AW_reg, AW_regD, AW_block, AW_cond, AW_skip, AW_exit, AW_ret, AW_scp, condR_true, condR_false, AThen_normal, AThen_ret, AThen_exit, ABlock_normal, ABlock_ret, ABlock_exit, AScope_normal, AScope_ret, AScope_exit, RetK_ret, RetK_normal, retAV_one, retAV_two, retAV_three, retAV_nil, RG_nil, RG_op, RG_guard, gdR_tt, gdR_ff, gdR_tf, gdR_ft, gdR_un, RG_call, callQ_clo, contK_ap, opR_some, RD_nil, RD_op0, RD_op1, opD0_some, opD1_some, RD_call, callQD_clo, RD_guard, gdD_tt, gdD_ff, gdD_tf, gdD_ft, gdD_un, psh_nil, psh_cons, Apt_nil, Apt_nilT, Apt_true, Apt_false, Dis_def, runT_val, runT_rd, runT_wr, runT_new, runT_mv, ex, put_some, put_none, ev_t, ev_c, argF_zero, argF_succ, set_g, set_n, cells_v, cells_sl, cells_agg, cells_own, cells_ptr, cells_clo, cells_eptr, cells_mp, putc, exBslice, lfill, exField, exIdxV, exIdxP, exBox, exAlloc, exLoad, exStore, exFieldA, exIdxA, exLen, exPick, exUn, exBeq, exMM, exSeq, seqGo, exExt, binV, intOp, subc, AV.solid, S0, encI, encB]
        exact FzK_B true _
structure RtS (p : Pat) (l : List Int) (b2 b5 : Nat) (f : AF) (S : St) : Prop where
  e1 : f 1 = encIs l
  e2 : f 2 = .ptr b2 0 0
  e5 : f 5 = .ptr b5 0 0
  e6 : f 6 = encIs l.reverse
  e7 : f 7 = encI l.length
  g2 : S.g b2 = some (.arr 4 [encPat p])
  g5 : S.g b5 = some (.arr 4 [encPat (turnP p)])
theorem RtS.same {p : Pat} {l : List Int} {b2 b5 : Nat} {f f' : AF} {S S' : St} (h : RtS p l b2 b5 f S) (hf : ∀ j, j = 1 ∨ j = 2 ∨ j = 5 ∨ j = 6 ∨ j = 7 → f' j = f j) (hg : S'.g = S.g) : RtS p l b2 b5 f' S' :=
  ⟨by rw [hf 1 (by simp)]; exact h.e1, by rw [hf 2 (by simp)]; exact h.e2, by rw [hf 5 (by simp)]; exact h.e5, by rw [hf 6 (by simp)]; exact h.e6, by rw [hf 7 (by simp)]; exact h.e7, by rw [hg]; exact h.g2, by rw [hg]; exact h.g5⟩
structure RtE (l E B : List Int) (i : Int) : Prop where
  len : B.length = E.length
  get : ∀ k (h : k < E.length), B[E.length - 1 - k]? = some ((l.length : Int) - E[k])
  rng : ∀ x ∈ E, i ≤ x ∧ x ≤ (l.length : Int)
  inc : E.Pairwise (· < ·)
  few : E.length ≤ l.length + 1
end Go.Rf

