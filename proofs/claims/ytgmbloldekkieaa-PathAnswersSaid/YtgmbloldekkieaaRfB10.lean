import Derived.Test.YtgmbloldekkieaaRfB3
import Derived.Test.YtgmbloldekkieaaRfB9
set_option linter.unusedVariables false
set_option linter.unusedSimpArgs false
namespace Go.Rf
def c_path_Far (f_det_Right f_path_graph_far : FuncId) : AC :=
  (.seq (.reg none [
   ⟨(some 1), .box 3 (.t 0), none, none⟩,
   ⟨(some 2), .mv (.c (.sl true [])), none, none⟩])
  (.seq (.seq (.reg none [
   ⟨(some 3), .load (some 3) (.t 1), none, none⟩,
   ⟨(some 4), .mv (.c .junk), none, (some ((.c (.clo f_det_Right [] [])), [(.t 3)]))⟩,
   ⟨(some 5), .un .not (.t 4), none, none⟩])
  (.cond (.t 5) (.seq (.reg none [
    ⟨(some 2), .mv (.c (.sl true [])), none, none⟩])
   .ret) .skip))
  (.seq (.reg none [
   ⟨(some 6), .fieldA 1 (.t 1), none, none⟩,
   ⟨(some 7), .load none (.t 6), none, none⟩,
   ⟨(some 8), .fieldA 2 (.t 1), none, none⟩,
   ⟨(some 9), .load none (.t 8), none, none⟩,
   ⟨(some 10), .build (.agg [(.sl true []), (.sl true [])]) [(0, 1), (1, 1)] [(0, (.t 7)), (1, (.t 9))], none, none⟩,
   ⟨(some 11), .mv (.c .junk), none, (some ((.c (.clo f_path_graph_far [] [])), [(.t 10)]))⟩,
   ⟨(some 2), .mv (.t 11), none, none⟩])
  .ret)))
def c_path_First (f_path_Far f_path_First_1 f_slices_IndexFunc_Sint_int_ : FuncId) : AC :=
  (.seq (.reg none [
   ⟨(some 1), .box 3 (.t 0), none, none⟩,
   ⟨(some 2), .mv (.c (.sl true [])), none, none⟩,
   ⟨(some 3), .mv (.c (.v (.bool false))), none, none⟩])
  (.seq (.reg none [
   ⟨(some 8), .load (some 3) (.t 1), none, none⟩,
   ⟨(some 9), .mv (.c .junk), none, (some ((.c (.clo f_path_Far [] [])), [(.t 8)]))⟩,
   ⟨(some 4), .alloc (.sl true []) 1, none, none⟩,
   ⟨none, .store 1 (.t 4) (.t 9), none, none⟩])
  (.seq (.seq (.reg none [
   ⟨(some 10), .load none (.t 4), none, none⟩,
   ⟨(some 11), .len (.t 10), none, none⟩,
   ⟨(some 12), .bin .eql (.t 11) (.c (.v (.int .i64 0))), none, none⟩,
   ⟨(some 13), .mv (.t 12), none, none⟩,
   ⟨(some 14), .load none (.t 4), (some (13, false)), none⟩,
   ⟨(some 15), .idxA 1 (.t 14) (.c (.v (.int .i64 0))), (some (13, false)), none⟩,
   ⟨(some 16), .load none (.t 15), (some (13, false)), none⟩,
   ⟨(some 17), .bin .eql (.t 16) (.c (.v (.int .i64 (-1)))), (some (13, false)), none⟩,
   ⟨(some 18), .pick (.t 13) (.c (.v (.bool true))) (.t 17), none, none⟩])
  (.cond (.t 18) (.seq (.reg none [
    ⟨(some 2), .mv (.c (.sl true [])), none, none⟩,
    ⟨(some 3), .mv (.c (.v (.bool false))), none, none⟩])
   .ret) .skip))
  (.seq (.reg none [
   ⟨(some 5), .mv (.c (.sl true [])), none, none⟩])
  (.seq (.seq (.reg none [
   ⟨(some 6), .alloc (.v (.int .i64 0)) 1, none, none⟩,
   ⟨none, .store 1 (.t 6) (.c (.v (.int .i64 0))), none, none⟩])
  (.block 0 (.loop (.seq (.seq (.reg none [
     ⟨(some 19), .load none (.t 4), none, none⟩,
     ⟨(some 20), .load none (.t 6), none, none⟩,
     ⟨(some 21), .idxA 1 (.t 19) (.t 20), none, none⟩,
     ⟨(some 22), .load none (.t 21), none, none⟩,
     ⟨(some 23), .bin .gtr (.t 22) (.c (.v (.int .i64 0))), none, none⟩])
    (.cond (.t 23) .skip (.exit 0)))
    (.seq (.block 1 (.seq (.reg none [
      ⟨(some 24), .fieldA 1 (.t 1), none, none⟩,
      ⟨(some 25), .load none (.t 24), none, none⟩,
      ⟨(some 26), .load none (.t 6), none, none⟩,
      ⟨(some 27), .idxA 1 (.t 25) (.t 26), none, none⟩,
      ⟨(some 28), .load none (.t 27), none, none⟩,
      ⟨(some 29), .mkf f_path_First_1 [] [(.t 4), (.t 6)], none, none⟩,
      ⟨(some 30), .mv (.c .junk), none, (some ((.c (.clo f_slices_IndexFunc_Sint_int_ [] [])), [(.t 28), (.t 29)]))⟩,
      ⟨(some 7), .mv (.t 30), none, none⟩])
     (.seq (.reg none [
      ⟨(some 31), .mv (.t 5), none, none⟩,
      ⟨(some 32), .mv (.t 7), none, none⟩,
      ⟨(some 33), .bslice 1 1 (.v (.int .i64 0)) [(0, (.t 32))], none, none⟩,
      ⟨(some 34), .app 1 8 (.t 31) (.t 33), none, none⟩,
      ⟨(some 5), .mv (.t 34), none, none⟩])
     (.reg none [
      ⟨(some 35), .fieldA 1 (.t 1), none, none⟩,
      ⟨(some 36), .load none (.t 35), none, none⟩,
      ⟨(some 37), .load none (.t 6), none, none⟩,
      ⟨(some 38), .idxA 1 (.t 36) (.t 37), none, none⟩,
      ⟨(some 39), .load none (.t 38), none, none⟩,
      ⟨(some 40), .mv (.t 7), none, none⟩,
      ⟨(some 41), .idxA 1 (.t 39) (.t 40), none, none⟩,
      ⟨(some 42), .load none (.t 41), none, none⟩,
      ⟨none, .store 1 (.t 6) (.t 42), none, none⟩]))))
    (.seq (.reg none [
     ⟨(some 43), .load none (.t 6), none, none⟩])
    (.reg none [
     ⟨(some 6), .alloc (.v (.int .i64 0)) 1, none, none⟩,
     ⟨none, .store 1 (.t 6) (.t 43), none, none⟩])))))))
  (.seq (.reg none [
   ⟨(some 44), .mv (.t 5), none, none⟩,
   ⟨(some 2), .mv (.t 44), none, none⟩,
   ⟨(some 3), .mv (.c (.v (.bool true))), none, none⟩])
  .ret))))))
def c_path_First_1 : AC :=
  (.seq (.reg none [
   ⟨(some 4), .mv (.c (.v (.bool false))), none, none⟩])
  (.seq (.reg (some []) [
   ⟨(some 5), .load none (.t 1), none, none⟩,
   ⟨(some 6), .mv (.t 0), none, none⟩,
   ⟨(some 7), .idxA 1 (.t 5) (.t 6), none, none⟩,
   ⟨(some 8), .load none (.t 7), none, none⟩,
   ⟨(some 9), .load none (.t 1), none, none⟩,
   ⟨(some 10), .load none (.t 2), none, none⟩,
   ⟨(some 11), .idxA 1 (.t 9) (.t 10), none, none⟩,
   ⟨(some 12), .load none (.t 11), none, none⟩,
   ⟨(some 13), .bin .sub (.t 12) (.c (.v (.int .i64 1))), none, none⟩,
   ⟨(some 14), .bin .eql (.t 8) (.t 13), none, none⟩,
   ⟨(some 4), .mv (.t 14), none, none⟩])
  .ret))

noncomputable def farD (d : Det) : List Int := if rightD d = true then farS ⟨d.next, d.fin⟩ else []
theorem RightD.gr {d : Det} (h : RightD d) : GrOk ⟨d.next, d.fin⟩ := by
  refine ⟨h.fin, by have := h.n2; show d.next.length ≤ 9000; omega, fun r hr => ?_, fun r hr t ht => .inr ?_⟩
  · change r ∈ d.next at hr
    obtain ⟨i, hi, rfl⟩ := List.mem_iff_getElem.mp hr
    have := h.row i hi; have := h.s2; omega
  · change r ∈ d.next at hr
    obtain ⟨i, hi, rfl⟩ := List.mem_iff_getElem.mp hr
    obtain ⟨j, hj, rfl⟩ := List.mem_iff_getElem.mp ht
    exact h.at_ i hi j hj
theorem closed_Gr (g : Gr) : Closed (encGr g) := .agg _ (by
  intro y hy
  simp only [List.mem_cons, List.not_mem_nil, or_false] at hy
  rcases hy with rfl | rfl
  · exact closed_Iss _
  · exact closed_Bs _)
theorem path_Far_body {P : Program} {fr fg : FuncId} (d : Det) (hr : PureC P fr [encDet d] (encB (rightD d))) (hg : rightD d = true → PureC P fg [encGr ⟨d.next, d.fin⟩] (encIs (farS ⟨d.next, d.fin⟩))) :
    AW P (c_path_Far fr fg) (RetK [2] (FzK (encIs (farD d)))) (argF [encDet d]) S0 := by
  cases h : rightD d with
  | false =>
    simp [AW_seq, AW_reg, AW_regD, AW_block, AW_cond, AW_skip, AW_exit, AW_ret, AW_scp, condR_true, condR_false, AThen_normal, AThen_ret, AThen_exit, ABlock_normal, ABlock_ret, ABlock_exit, AScope_normal, AScope_ret, AScope_exit, RetK_ret, RetK_normal, retAV_one, retAV_two, retAV_three, retAV_nil, RG_nil, RG_op, RG_guard, gdR_tt, gdR_ff, gdR_tf, gdR_ft, gdR_un, RG_call, callQ_clo, contK_ap, opR_some, RD_nil, RD_op0, RD_op1, opD0_some, opD1_some, RD_call, callQD_clo, RD_guard, gdD_tt, gdD_ff, gdD_tf, gdD_ft, gdD_un, psh_nil, psh_cons, Apt_nil, Apt_nilT, Apt_true, Apt_false, Dis_def, runT_val, runT_rd, runT_wr, runT_new, runT_mv, ex, put_some, put_none, ev_t, ev_c, argF_zero, argF_succ, set_g, set_n, cells_v, cells_sl, cells_agg, cells_own, cells_ptr, cells_clo, cells_eptr, cells_mp, putc, exBslice, lfill, exField, exIdxV, exIdxP, exBox, exAlloc, exLoad, exStore, exFieldA, exIdxA, exLen, exPick, exUn, exBeq, exMM, exSeq, seqGo, exExt, binV, intOp, subc, AV.solid, S0, encI, encB, c_path_Far, encDet]
    refine CallR.pure hr (cl_cons (closed_Det d) cl_nil) (closed_B _) ?_
    simp [AW_seq, AW_reg, AW_regD, AW_block, AW_cond, AW_skip, AW_exit, AW_ret, AW_scp, condR_true, condR_false, AThen_normal, AThen_ret, AThen_exit, ABlock_normal, ABlock_ret, ABlock_exit, AScope_normal, AScope_ret, AScope_exit, RetK_ret, RetK_normal, retAV_one, retAV_two, retAV_three, retAV_nil, RG_nil, RG_op, RG_guard, gdR_tt, gdR_ff, gdR_tf, gdR_ft, gdR_un, RG_call, callQ_clo, contK_ap, opR_some, RD_nil, RD_op0, RD_op1, opD0_some, opD1_some, RD_call, callQD_clo, RD_guard, gdD_tt, gdD_ff, gdD_tf, gdD_ft, gdD_un, psh_nil, psh_cons, Apt_nil, Apt_nilT, Apt_true, Apt_false, Dis_def, runT_val, runT_rd, runT_wr, runT_new, runT_mv, ex, put_some, put_none, ev_t, ev_c, argF_zero, argF_succ, set_g, set_n, cells_v, cells_sl, cells_agg, cells_own, cells_ptr, cells_clo, cells_eptr, cells_mp, putc, exBslice, lfill, exField, exIdxV, exIdxP, exBox, exAlloc, exLoad, exStore, exFieldA, exIdxA, exLen, exPick, exUn, exBeq, exMM, exSeq, seqGo, exExt, binV, intOp, subc, AV.solid, S0, encI, encB, h, farD]
    exact .loose true [] (.sl _ _ (by simp))
  | true =>
    simp [AW_seq, AW_reg, AW_regD, AW_block, AW_cond, AW_skip, AW_exit, AW_ret, AW_scp, condR_true, condR_false, AThen_normal, AThen_ret, AThen_exit, ABlock_normal, ABlock_ret, ABlock_exit, AScope_normal, AScope_ret, AScope_exit, RetK_ret, RetK_normal, retAV_one, retAV_two, retAV_three, retAV_nil, RG_nil, RG_op, RG_guard, gdR_tt, gdR_ff, gdR_tf, gdR_ft, gdR_un, RG_call, callQ_clo, contK_ap, opR_some, RD_nil, RD_op0, RD_op1, opD0_some, opD1_some, RD_call, callQD_clo, RD_guard, gdD_tt, gdD_ff, gdD_tf, gdD_ft, gdD_un, psh_nil, psh_cons, Apt_nil, Apt_nilT, Apt_true, Apt_false, Dis_def, runT_val, runT_rd, runT_wr, runT_new, runT_mv, ex, put_some, put_none, ev_t, ev_c, argF_zero, argF_succ, set_g, set_n, cells_v, cells_sl, cells_agg, cells_own, cells_ptr, cells_clo, cells_eptr, cells_mp, putc, exBslice, lfill, exField, exIdxV, exIdxP, exBox, exAlloc, exLoad, exStore, exFieldA, exIdxA, exLen, exPick, exUn, exBeq, exMM, exSeq, seqGo, exExt, binV, intOp, subc, AV.solid, S0, encI, encB, c_path_Far, encDet]
    refine CallR.pure hr (cl_cons (closed_Det d) cl_nil) (closed_B _) ?_
    simp [AW_seq, AW_reg, AW_regD, AW_block, AW_cond, AW_skip, AW_exit, AW_ret, AW_scp, condR_true, condR_false, AThen_normal, AThen_ret, AThen_exit, ABlock_normal, ABlock_ret, ABlock_exit, AScope_normal, AScope_ret, AScope_exit, RetK_ret, RetK_normal, retAV_one, retAV_two, retAV_three, retAV_nil, RG_nil, RG_op, RG_guard, gdR_tt, gdR_ff, gdR_tf, gdR_ft, gdR_un, RG_call, callQ_clo, contK_ap, opR_some, RD_nil, RD_op0, RD_op1, opD0_some, opD1_some, RD_call, callQD_clo, RD_guard, gdD_tt, gdD_ff, gdD_tf, gdD_ft, gdD_un, psh_nil, psh_cons, Apt_nil, Apt_nilT, Apt_true, Apt_false, Dis_def, runT_val, runT_rd, runT_wr, runT_new, runT_mv, ex, put_some, put_none, ev_t, ev_c, argF_zero, argF_succ, set_g, set_n, cells_v, cells_sl, cells_agg, cells_own, cells_ptr, cells_clo, cells_eptr, cells_mp, putc, exBslice, lfill, exField, exIdxV, exIdxP, exBox, exAlloc, exLoad, exStore, exFieldA, exIdxA, exLen, exPick, exUn, exBeq, exMM, exSeq, seqGo, exExt, binV, intOp, subc, AV.solid, S0, encI, encB, h, farD, encDet, exBuild, afill]
    refine CallR.pure (hg h) (cl_cons (closed_Gr _) cl_nil) (closed_Is _) ?_
    simp [AW_seq, AW_reg, AW_regD, AW_block, AW_cond, AW_skip, AW_exit, AW_ret, AW_scp, condR_true, condR_false, AThen_normal, AThen_ret, AThen_exit, ABlock_normal, ABlock_ret, ABlock_exit, AScope_normal, AScope_ret, AScope_exit, RetK_ret, RetK_normal, retAV_one, retAV_two, retAV_three, retAV_nil, RG_nil, RG_op, RG_guard, gdR_tt, gdR_ff, gdR_tf, gdR_ft, gdR_un, RG_call, callQ_clo, contK_ap, opR_some, RD_nil, RD_op0, RD_op1, opD0_some, opD1_some, RD_call, callQD_clo, RD_guard, gdD_tt, gdD_ff, gdD_tf, gdD_ft, gdD_un, psh_nil, psh_cons, Apt_nil, Apt_nilT, Apt_true, Apt_false, Dis_def, runT_val, runT_rd, runT_wr, runT_new, runT_mv, ex, put_some, put_none, ev_t, ev_c, argF_zero, argF_succ, set_g, set_n, cells_v, cells_sl, cells_agg, cells_own, cells_ptr, cells_clo, cells_eptr, cells_mp, putc, exBslice, lfill, exField, exIdxV, exIdxP, exBox, exAlloc, exLoad, exStore, exFieldA, exIdxA, exLen, exPick, exUn, exBeq, exMM, exSeq, seqGo, exExt, binV, intOp, subc, AV.solid, S0, encI, encB]
    exact .closed _ (closed_Is _)
def nearP (far : List Int) (at_ : Nat) (t : Int) : Bool := rd far t.toNat == rd far at_ - 1
def firstFrom (next : List (List Int)) (far : List Int) : Nat → Nat → List Int
  | 0, _ => []
  | m + 1, a => idxF (nearP far a) (next.getD a []) :: firstFrom next far m (((next.getD a []).getD (idxF (nearP far a) (next.getD a [])).toNat 0).toNat)
def firstL (d : Det) (far : List Int) : List Int := firstFrom d.next far (rd far 0).toNat 0
noncomputable def firstOk (d : Det) : Bool := decide (0 ≤ rd (farD d) 0)
noncomputable def firstS (d : Det) : List Int := if firstOk d = true then firstL d (farD d) else []
theorem idxF_spec {X : Type} {p : X → Bool} : ∀ {l : List X}, (∃ x ∈ l, p x = true) → ∃ j, ∃ hj : j < l.length, idxF p l = (j : Int) ∧ p l[j] = true ∧ ∀ i (hi : i < j), p (l[i]'(by omega)) = false := by
  intro l h
  have hany : l.any p = true := List.any_eq_true.mpr h
  have hlt : l.findIdx p < l.length := List.findIdx_lt_length_of_exists h
  refine ⟨l.findIdx p, hlt, by simp [idxF, hany], List.findIdx_getElem, fun i hi => ?_⟩
  have := List.not_of_lt_findIdx hi
  simpa using this
theorem path_First_1_body (P : Program) (far : List Int) (t : Int) (a : Nat) (ht : 0 ≤ t ∧ t < far.length) (ha : a < far.length) (hv : -1 ≤ rd far a ∧ rd far a ≤ 100000) :
    AW P c_path_First_1 (RetK [4] (FzK (encB (nearP far a t)))) (argF [encI t, .eptr (encIs far) 0, .eptr (encI a) 0]) S0 := by
  have ht2 : t.toNat < far.length := by omega
  have h1 := rd_get ht2
  have h2 := rd_get ha
  have hw : IntKind.i64.wrap (far[a] - 1) = far[a] - 1 := wrap_in _ (by omega)
  simp [AW_seq, AW_reg, AW_regD, AW_block, AW_cond, AW_skip, AW_exit, AW_ret, AW_scp, condR_true, condR_false, AThen_normal, AThen_ret, AThen_exit, ABlock_normal, ABlock_ret, ABlock_exit, AScope_normal, AScope_ret, AScope_exit, RetK_ret, RetK_normal, retAV_one, retAV_two, retAV_three, retAV_nil, RG_nil, RG_op, RG_guard, gdR_tt, gdR_ff, gdR_tf, gdR_ft, gdR_un, RG_call, callQ_clo, contK_ap, opR_some, RD_nil, RD_op0, RD_op1, opD0_some, opD1_some, RD_call, callQD_clo, RD_guard, gdD_tt, gdD_ff, gdD_tf, gdD_ft, gdD_un, psh_nil, psh_cons, Apt_nil, Apt_nilT, Apt_true, Apt_false, Dis_def, runT_val, runT_rd, runT_wr, runT_new, runT_mv, ex, put_some, put_none, ev_t, ev_c, argF_zero, argF_succ, set_g, set_n, cells_v, cells_sl, cells_agg, cells_own, cells_ptr, cells_clo, cells_eptr, cells_mp, putc, exBslice, lfill, exField, exIdxV, exIdxP, exBox, exAlloc, exLoad, exStore, exFieldA, exIdxA, exLen, exPick, exUn, exBeq, exMM, exSeq, seqGo, exExt, binV, intOp, subc, AV.solid, S0, encI, encB, c_path_First_1, encIs, ht.1, ht.2, ht2, ha, hw]
  have : nearP far a t = (far[t.toNat] == far[a] - 1) := by unfold nearP; rw [h1, h2]
  rw [this]
  exact FzK_B _ _
structure FirstSt (d : Det) (far : List Int) (f : AF) (S : St) (at_ k : Nat) (l : List Int) : Prop where
  e1 : f 1 = .ptr 0 0 0
  e4 : f 4 = .ptr 5 0 0
  e6 : f 6 = .ptr k 0 0
  g0 : S.g 0 = some (.arr 3 [encDet d])
  g5 : S.g 5 = some (.arr 1 [encIs far])
  gk : S.g k = some (.arr 1 [encI at_])
  v : Vec S.g (f 5) 1 (l.map encI)
  ids : ∀ i ∈ (f 5).ids, i ≠ 0 ∧ i ≠ 5 ∧ i ≠ k ∧ i < S.n
  hk : k ≠ 0 ∧ k ≠ 5 ∧ k < S.n
  n : 12 ≤ S.n
def firstI (d : Det) (far : List Int) (m : Nat) (f : AF) (S : St) : Prop :=
  ∃ at_ k l, FirstSt d far f S at_ k l ∧ at_ < d.next.length ∧ rd far at_ = (m : Int) ∧ l ++ firstFrom d.next far m at_ = firstL d far ∧ l.length + m ≤ 3000
theorem path_First_body {P : Program} {ff fi f1 : FuncId} (d : Det) (hf : PureC P ff [encDet d] (encIs (farD d)))
    (h1 : ∀ (t : Int) (a : Nat), 0 ≤ t ∧ t < (farD d).length → a < (farD d).length → -1 ≤ rd (farD d) a ∧ rd (farD d) a ≤ 100000 → PureC P f1 [encI t, .eptr (encIs (farD d)) 0, .eptr (encI a) 0] (encB (nearP (farD d) a t)))
    (hi : ∀ (l : List Int) (p : Int → Bool) (cap : List AV), Len l → (∀ y ∈ cap, Closed y) → (∀ x ∈ l, PureC P f1 (encI x :: cap) (encB (p x))) → PureC P fi [encIs l, .clo f1 [] cap] (encI (idxF p l))) :
    AW P (c_path_First ff f1 fi) (RetK [2, 3] (FzK (.tup [encIs (firstS d), encB (firstOk d)]))) (argF [encDet d]) S0 := by
  simp [AW_seq, AW_reg, AW_regD, AW_block, AW_cond, AW_skip, AW_exit, AW_ret, AW_scp, condR_true, condR_false, AThen_normal, AThen_ret, AThen_exit, ABlock_normal, ABlock_ret, ABlock_exit, AScope_normal, AScope_ret, AScope_exit, RetK_ret, RetK_normal, retAV_one, retAV_two, retAV_three, retAV_nil, RG_nil, RG_op, RG_guard, gdR_tt, gdR_ff, gdR_tf, gdR_ft, gdR_un, RG_call, callQ_clo, contK_ap, opR_some, RD_nil, RD_op0, RD_op1, opD0_some, opD1_some, RD_call, callQD_clo, RD_guard, gdD_tt, gdD_ff, gdD_tf, gdD_ft, gdD_un, psh_nil, psh_cons, Apt_nil, Apt_nilT, Apt_true, Apt_false, Dis_def, runT_val, runT_rd, runT_wr, runT_new, runT_mv, ex, put_some, put_none, ev_t, ev_c, argF_zero, argF_succ, set_g, set_n, cells_v, cells_sl, cells_agg, cells_own, cells_ptr, cells_clo, cells_eptr, cells_mp, putc, exBslice, lfill, exField, exIdxV, exIdxP, exBox, exAlloc, exLoad, exStore, exFieldA, exIdxA, exLen, exPick, exUn, exBeq, exMM, exSeq, seqGo, exExt, binV, intOp, subc, AV.solid, S0, encI, encB, c_path_First, encDet]
  refine CallR.pure hf (cl_cons (closed_Det d) cl_nil) (closed_Is _) ?_
  by_cases hr : rightD d = true
  · have R := (right_iff d).mp hr
    have ok := RightD.gr R
    have hfd : farD d = farS ⟨d.next, d.fin⟩ := by unfold farD; rw [if_pos hr]
    have fo := farS_ok ⟨d.next, d.fin⟩
    rw [← hfd] at fo
    generalize hfg : farD d = far at *
    have hlen : far.length = d.next.length := fo.len
    have hn1 := R.n1
    have hn2 := R.n2
    have h0 : 0 < far.length := by omega
    have h0e : ((far.length : Int) == 0) = false := beq_false_of_ne (by omega)
    have hrd0 := rd_get h0
    by_cases hno : far[0] = -1
    · have hc : (far[0] == -1) = true := by simp [hno]
      have hok : firstOk d = false := by unfold firstOk; rw [hfg]; simp; omega
      have hS : firstS d = [] := by unfold firstS; rw [hok]; rfl
      simp [AW_seq, AW_reg, AW_regD, AW_block, AW_cond, AW_skip, AW_exit, AW_ret, AW_scp, condR_true, condR_false, AThen_normal, AThen_ret, AThen_exit, ABlock_normal, ABlock_ret, ABlock_exit, AScope_normal, AScope_ret, AScope_exit, RetK_ret, RetK_normal, retAV_one, retAV_two, retAV_three, retAV_nil, RG_nil, RG_op, RG_guard, gdR_tt, gdR_ff, gdR_tf, gdR_ft, gdR_un, RG_call, callQ_clo, contK_ap, opR_some, RD_nil, RD_op0, RD_op1, opD0_some, opD1_some, RD_call, callQD_clo, RD_guard, gdD_tt, gdD_ff, gdD_tf, gdD_ft, gdD_un, psh_nil, psh_cons, Apt_nil, Apt_nilT, Apt_true, Apt_false, Dis_def, runT_val, runT_rd, runT_wr, runT_new, runT_mv, ex, put_some, put_none, ev_t, ev_c, argF_zero, argF_succ, set_g, set_n, cells_v, cells_sl, cells_agg, cells_own, cells_ptr, cells_clo, cells_eptr, cells_mp, putc, exBslice, lfill, exField, exIdxV, exIdxP, exBox, exAlloc, exLoad, exStore, exFieldA, exIdxA, exLen, exPick, exUn, exBeq, exMM, exSeq, seqGo, exExt, binV, intOp, subc, AV.solid, S0, encI, encB, encIs, h0, h0e, hc, hS, hok]
      exact .tup _ _ rfl (by
        intro j h1 h2
        match j, h1 with
        | 0, _ => exact .loose true [] (.sl _ _ (by simp))
        | 1, _ => exact .closed _ (.v _))
    · have hc : (far[0] == -1) = false := by simp [hno]
      have hok : firstOk d = true := by unfold firstOk; rw [hfg]; have := fo.val 0 (by show 0 < d.next.length; omega); simp; omega
      have hS : firstS d = firstL d far := by unfold firstS; rw [hok, if_pos rfl, hfg]
      simp [AW_seq, AW_reg, AW_regD, AW_block, AW_cond, AW_skip, AW_exit, AW_ret, AW_scp, condR_true, condR_false, AThen_normal, AThen_ret, AThen_exit, ABlock_normal, ABlock_ret, ABlock_exit, AScope_normal, AScope_ret, AScope_exit, RetK_ret, RetK_normal, retAV_one, retAV_two, retAV_three, retAV_nil, RG_nil, RG_op, RG_guard, gdR_tt, gdR_ff, gdR_tf, gdR_ft, gdR_un, RG_call, callQ_clo, contK_ap, opR_some, RD_nil, RD_op0, RD_op1, opD0_some, opD1_some, RD_call, callQD_clo, RD_guard, gdD_tt, gdD_ff, gdD_tf, gdD_ft, gdD_un, psh_nil, psh_cons, Apt_nil, Apt_nilT, Apt_true, Apt_false, Dis_def, runT_val, runT_rd, runT_wr, runT_new, runT_mv, ex, put_some, put_none, ev_t, ev_c, argF_zero, argF_succ, set_g, set_n, cells_v, cells_sl, cells_agg, cells_own, cells_ptr, cells_clo, cells_eptr, cells_mp, putc, exBslice, lfill, exField, exIdxV, exIdxP, exBox, exAlloc, exLoad, exStore, exFieldA, exIdxA, exLen, exPick, exUn, exBeq, exMM, exSeq, seqGo, exExt, binV, intOp, subc, AV.solid, S0, encI, encB, encIs, h0, h0e, hc, hS, hok]
      refine AW_loop (firstI d far) (rd far 0).toNat ?_ ?_
      · refine ⟨0, 17, [], ⟨?_, ?_, ?_, ?_, ?_, ?_, ?_, ?_, ?_, ?_⟩, by omega, ?_, rfl, ?_⟩
        · simp [put_some]
        · simp [put_some]
        · simp [put_some]
        · simp [set_g, encDet, encI]
        · simp [set_g, encIs]
        · simp [set_g, encI]
        · simp [put_some]; exact .nil
        · simp [put_some, AV.ids]
        · simp [set_n]
        · simp [set_n]
        · have := fo.val 0 (by show 0 < d.next.length; omega); omega
        · have := fo.lt 0 (by show 0 < d.next.length; omega)
          have e : (Gr.mk d.next d.fin).n = d.next.length := rfl
          simp; omega
      · rintro m f S ⟨at_, k, l, ⟨e1, e4, e6, g0, g5, gk, v, ids, hk, sn⟩, hat, hm, hl, hb⟩
        have hatf : at_ < far.length := by omega
        have hatI : (at_ : Int) < far.length := by omega
        have hga : far[at_]? = some far[at_] := List.getElem?_eq_getElem hatf
        have hrda := rd_get hatf
        cases m with
        | zero =>
          have hz : ¬ (0 < far[at_]) := by rw [hrda, hm]; simp
          simp [AW_seq, AW_reg, AW_regD, AW_block, AW_cond, AW_skip, AW_exit, AW_ret, AW_scp, condR_true, condR_false, AThen_normal, AThen_ret, AThen_exit, ABlock_normal, ABlock_ret, ABlock_exit, AScope_normal, AScope_ret, AScope_exit, RetK_ret, RetK_normal, retAV_one, retAV_two, retAV_three, retAV_nil, RG_nil, RG_op, RG_guard, gdR_tt, gdR_ff, gdR_tf, gdR_ft, gdR_un, RG_call, callQ_clo, contK_ap, opR_some, RD_nil, RD_op0, RD_op1, opD0_some, opD1_some, RD_call, callQD_clo, RD_guard, gdD_tt, gdD_ff, gdD_tf, gdD_ft, gdD_un, psh_nil, psh_cons, Apt_nil, Apt_nilT, Apt_true, Apt_false, Dis_def, runT_val, runT_rd, runT_wr, runT_new, runT_mv, ex, put_some, put_none, ev_t, ev_c, argF_zero, argF_succ, set_g, set_n, cells_v, cells_sl, cells_agg, cells_own, cells_ptr, cells_clo, cells_eptr, cells_mp, putc, exBslice, lfill, exField, exIdxV, exIdxP, exBox, exAlloc, exLoad, exStore, exFieldA, exIdxA, exLen, exPick, exUn, exBeq, exMM, exSeq, seqGo, exExt, binV, intOp, subc, AV.solid, S0, encI, encB, e1, e4, e6, g0, g5, gk, encIs, encI, hatI, hga, hz]
          rw [firstFrom, List.append_nil] at hl
          subst hl
          exact .tup _ _ rfl (by
            intro j h1 h2
            match j, h1 with
            | 0, _ => exact v.fz closed_I
            | 1, _ => exact .closed _ (.v _))
        | succ m =>
          have hz : 0 < far[at_] := by rw [hrda, hm]; omega
          have hgn : d.next[at_]? = some d.next[at_] := List.getElem?_eq_getElem hat
          obtain ⟨t, ht1, ht2, ht3⟩ := fo.pre at_ hat (by rw [hm]; omega)
          obtain ⟨row', hr1, hr2⟩ := ht2
          have hrr : row' = d.next[at_] := by
            have : d.next[at_]? = some row' := hr1
            rw [hgn] at this; exact (Option.some.inj this).symm
          subst hrr
          obtain ⟨j, hj, hj1, hj2, hj3⟩ := idxF_spec (p := nearP far at_) ⟨(t : Int), hr2, by unfold nearP; simp [ht3]⟩
          have hbt := R.at_ at_ hat j hj
          have hrowl : (d.next[at_]).length ≤ 400 := by have := R.row at_ hat; have := R.s2; omega
          simp [AW_seq, AW_reg, AW_regD, AW_block, AW_cond, AW_skip, AW_exit, AW_ret, AW_scp, condR_true, condR_false, AThen_normal, AThen_ret, AThen_exit, ABlock_normal, ABlock_ret, ABlock_exit, AScope_normal, AScope_ret, AScope_exit, RetK_ret, RetK_normal, retAV_one, retAV_two, retAV_three, retAV_nil, RG_nil, RG_op, RG_guard, gdR_tt, gdR_ff, gdR_tf, gdR_ft, gdR_un, RG_call, callQ_clo, contK_ap, opR_some, RD_nil, RD_op0, RD_op1, opD0_some, opD1_some, RD_call, callQD_clo, RD_guard, gdD_tt, gdD_ff, gdD_tf, gdD_ft, gdD_un, psh_nil, psh_cons, Apt_nil, Apt_nilT, Apt_true, Apt_false, Dis_def, runT_val, runT_rd, runT_wr, runT_new, runT_mv, ex, put_some, put_none, ev_t, ev_c, argF_zero, argF_succ, set_g, set_n, cells_v, cells_sl, cells_agg, cells_own, cells_ptr, cells_clo, cells_eptr, cells_mp, putc, exBslice, lfill, exField, exIdxV, exIdxP, exBox, exAlloc, exLoad, exStore, exFieldA, exIdxA, exLen, exPick, exUn, exBeq, exMM, exSeq, seqGo, exExt, binV, intOp, subc, AV.solid, S0, encI, encB, e1, e4, e6, g0, g5, gk, encIs, encIss, encI, encDet, hatI, hga, hz, hgn]
          refine CallR.looks (S := ⟨S.n + 5 + 8, S.g⟩) (hi d.next[at_] (nearP far at_) [.eptr (encIs far) 0, .eptr (encI at_) 0] (by unfold Len; omega) (cl_cons (.eptr _ _ (closed_Is _)) (cl_cons (.eptr _ _ (closed_I _)) cl_nil))
            (fun x hx => h1 x at_ ?_ hatf ?_)) (FzL.cons (.closed _ (closed_Is _)) (FzL.cons (Fz.clo0 (FzL.cons (Fz.box 5 0 1 _ _ g5 (.closed _ (closed_Is _))) (FzL.cons (Fz.box k 0 1 _ _ gk (.closed _ (closed_I _))) .nil))) .nil)) (plain_I _) ?_
          · obtain ⟨i, hi1, rfl⟩ := List.mem_iff_getElem.mp hx
            have := R.at_ at_ hat i hi1; omega
          · omega
          · rw [hj1]
            simp [AW_seq, AW_reg, AW_regD, AW_block, AW_cond, AW_skip, AW_exit, AW_ret, AW_scp, condR_true, condR_false, AThen_normal, AThen_ret, AThen_exit, ABlock_normal, ABlock_ret, ABlock_exit, AScope_normal, AScope_ret, AScope_exit, RetK_ret, RetK_normal, retAV_one, retAV_two, retAV_three, retAV_nil, RG_nil, RG_op, RG_guard, gdR_tt, gdR_ff, gdR_tf, gdR_ft, gdR_un, RG_call, callQ_clo, contK_ap, opR_some, RD_nil, RD_op0, RD_op1, opD0_some, opD1_some, RD_call, callQD_clo, RD_guard, gdD_tt, gdD_ff, gdD_tf, gdD_ft, gdD_un, psh_nil, psh_cons, Apt_nil, Apt_nilT, Apt_true, Apt_false, Dis_def, runT_val, runT_rd, runT_wr, runT_new, runT_mv, ex, put_some, put_none, ev_t, ev_c, argF_zero, argF_succ, set_g, set_n, cells_v, cells_sl, cells_agg, cells_own, cells_ptr, cells_clo, cells_eptr, cells_mp, putc, exBslice, lfill, exField, exIdxV, exIdxP, exBox, exAlloc, exLoad, exStore, exFieldA, exIdxA, exLen, exPick, exUn, exBeq, exMM, exSeq, seqGo, exExt, binV, intOp, subc, AV.solid, S0, encI, encB]
            rw [Vec.app (xs := l.map encI) (v.frame (fun i hi => rfl)) (cells_I _) (by simp [AV.cells]) (appOk8 (by rw [List.length_map]; omega))]
            have hout : ∀ i, i = 0 ∨ i = 5 ∨ i = k → i ∉ (f 5).ids := fun i hi hi2 => by
              obtain ⟨q1, q2, q3, q4⟩ := ids i hi2
              omega
            have hw0 : ∀ m, (St.without ⟨m, S.g⟩ (f 5)).g 0 = some (.arr 3 [.agg [.v (.int .i64 d.signs), .sl false (d.next.map encIs), encBs d.fin]]) := fun m => by rw [without_g 0 (hout 0 (by simp))]; exact g0
            have hwk : ∀ m, (St.without ⟨m, S.g⟩ (f 5)).g k = some (.arr 1 [.v (.int .i64 at_)]) := fun m => by rw [without_g k (hout k (by simp))]; exact gk
            have hw5 : ∀ m, (St.without ⟨m, S.g⟩ (f 5)).g 5 = some (.arr 1 [encIs far]) := fun m => by rw [without_g 5 (hout 5 (by simp))]; exact g5
            have hn5 : ¬ (5 = S.n + 5 + 8 + 3) := by omega
            have hnk : ¬ (k = S.n + 5 + 8 + 3) := by omega
            have hgj : (d.next[at_])[j]? = some (d.next[at_])[j] := List.getElem?_eq_getElem hj
            simp [AW_seq, AW_reg, AW_regD, AW_block, AW_cond, AW_skip, AW_exit, AW_ret, AW_scp, condR_true, condR_false, AThen_normal, AThen_ret, AThen_exit, ABlock_normal, ABlock_ret, ABlock_exit, AScope_normal, AScope_ret, AScope_exit, RetK_ret, RetK_normal, retAV_one, retAV_two, retAV_three, retAV_nil, RG_nil, RG_op, RG_guard, gdR_tt, gdR_ff, gdR_tf, gdR_ft, gdR_un, RG_call, callQ_clo, contK_ap, opR_some, RD_nil, RD_op0, RD_op1, opD0_some, opD1_some, RD_call, callQD_clo, RD_guard, gdD_tt, gdD_ff, gdD_tf, gdD_ft, gdD_un, psh_nil, psh_cons, Apt_nil, Apt_nilT, Apt_true, Apt_false, Dis_def, runT_val, runT_rd, runT_wr, runT_new, runT_mv, ex, put_some, put_none, ev_t, ev_c, argF_zero, argF_succ, set_g, set_n, cells_v, cells_sl, cells_agg, cells_own, cells_ptr, cells_clo, cells_eptr, cells_mp, putc, exBslice, lfill, exField, exIdxV, exIdxP, exBox, exAlloc, exLoad, exStore, exFieldA, exIdxA, exLen, exPick, exUn, exBeq, exMM, exSeq, seqGo, exExt, binV, intOp, subc, AV.solid, S0, encI, encB, e1, e4, e6, hw0, hwk, hn5, hnk, hgn, hgj, encIs, without_n]
            have hnr : rd far (d.next[at_][j]).toNat = (m : Int) := by
              have := hj2
              unfold nearP at this
              rw [beq_iff_eq, hm] at this
              omega
            refine ⟨m, by omega, (d.next[at_][j]).toNat, S.n + 28, l ++ [(j : Int)], ⟨?_, ?_, ?_, ?_, ?_, ?_, ?_, ?_, ?_, ?_⟩, by omega, hnr, ?_, ?_⟩
            · simp [put_some, e1]
            · simp [put_some, e4]
            · simp [put_some]
            · simp [set_g, hw0, encDet, encI, encIss, Ne.symm hk.1]
            · have : ¬ (5 = S.n + 28) := by omega
              simp [set_g, hw5, hn5, this, Ne.symm hk.2.1]
            · simp [set_g, encI]; omega
            · simp only [put_some]
              simp only [Nat.reduceEqDiff, if_false, if_true]
              refine .mk' ?_ (by simp)
              have q1 : ¬ (S.n + 5 + 8 + 3 = S.n + 28) := by omega
              have q2 : ¬ (S.n + 5 + 8 + 3 = k) := by omega
              simp only [set_g]
              rw [if_neg q1, if_neg q1, if_neg q2]
              simp [encI]
            · intro i hi
              simp [put_some, AV.ids] at hi
              subst hi
              simp [set_n]; try omega
            · simp [set_n]
            · simp [set_n]
            · rw [← hl, firstFrom]
              have g1 : d.next.getD at_ [] = d.next[at_] := by simp [List.getD_eq_getElem?_getD, hgn]
              rw [g1, hj1, List.append_assoc]
              have g2 : (d.next[at_]).getD ((j : Int)).toNat 0 = (d.next[at_])[j] := by simp [List.getD_eq_getElem?_getD, hgj]
              rw [g2]; rfl
            · simp; omega
  · have hfd : farD d = [] := by unfold farD; rw [if_neg hr]
    have hok : firstOk d = false := by unfold firstOk; rw [hfd]; simp [rd]
    have hS : firstS d = [] := by unfold firstS; rw [hok]; rfl
    simp [AW_seq, AW_reg, AW_regD, AW_block, AW_cond, AW_skip, AW_exit, AW_ret, AW_scp, condR_true, condR_false, AThen_normal, AThen_ret, AThen_exit, ABlock_normal, ABlock_ret, ABlock_exit, AScope_normal, AScope_ret, AScope_exit, RetK_ret, RetK_normal, retAV_one, retAV_two, retAV_three, retAV_nil, RG_nil, RG_op, RG_guard, gdR_tt, gdR_ff, gdR_tf, gdR_ft, gdR_un, RG_call, callQ_clo, contK_ap, opR_some, RD_nil, RD_op0, RD_op1, opD0_some, opD1_some, RD_call, callQD_clo, RD_guard, gdD_tt, gdD_ff, gdD_tf, gdD_ft, gdD_un, psh_nil, psh_cons, Apt_nil, Apt_nilT, Apt_true, Apt_false, Dis_def, runT_val, runT_rd, runT_wr, runT_new, runT_mv, ex, put_some, put_none, ev_t, ev_c, argF_zero, argF_succ, set_g, set_n, cells_v, cells_sl, cells_agg, cells_own, cells_ptr, cells_clo, cells_eptr, cells_mp, putc, exBslice, lfill, exField, exIdxV, exIdxP, exBox, exAlloc, exLoad, exStore, exFieldA, exIdxA, exLen, exPick, exUn, exBeq, exMM, exSeq, seqGo, exExt, binV, intOp, subc, AV.solid, S0, encI, encB, hfd, encIs, hS, hok]
    exact .tup _ _ rfl (by
      intro j h1 h2
      match j, h1 with
      | 0, _ => exact .loose true [] (.sl _ _ (by simp))
      | 1, _ => exact .closed _ (.v _))
end Go.Rf
