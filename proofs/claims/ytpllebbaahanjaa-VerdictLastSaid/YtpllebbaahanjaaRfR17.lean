import Derived.Test.YtpllebbaahanjaaRfR14
import Derived.Test.YtpllebbaahanjaaRfCat
/- Own work: a book without a rule; VerdictWithout's and VerdictLast's walks. -/
set_option linter.unusedVariables false
set_option linter.unusedSimpArgs false
namespace Go.Rf
open Go.RowKit

def c_verdict_Without (f_slices_Concat_Sapi_Rule_api_Rule_ : FuncId) : AC :=
  (.seq (.reg none [
   ⟨(some 2), .box 4 (.t 0), none, none⟩,
   ⟨(some 4), .alloc (.agg [(.sl true []), (.sl true []), (.sl true []), (.sl true [])]) 4, none, none⟩])
  (.seq (.seq (.reg none [
   ⟨(some 5), .mv (.t 1), none, none⟩,
   ⟨(some 6), .bin .geq (.t 5) (.c (.v (.int .i64 0))), none, none⟩,
   ⟨(some 7), .mv (.t 6), none, none⟩,
   ⟨(some 8), .mv (.t 1), (some (7, true)), none⟩,
   ⟨(some 9), .fieldA 1 (.t 2), (some (7, true)), none⟩,
   ⟨(some 10), .load none (.t 9), (some (7, true)), none⟩,
   ⟨(some 11), .len (.t 10), (some (7, true)), none⟩,
   ⟨(some 12), .bin .lss (.t 8) (.t 11), (some (7, true)), none⟩,
   ⟨(some 13), .pick (.t 7) (.t 12) (.c (.v (.bool false))), none, none⟩])
  (.cond (.t 13) (.reg (some []) [
    ⟨(some 14), .fieldA 1 (.t 2), none, none⟩,
    ⟨(some 15), .load none (.t 14), none, none⟩,
    ⟨(some 16), .mv (.t 1), none, none⟩,
    ⟨(some 17), .slc 11 (.t 15) none (some (.t 16)), none, none⟩,
    ⟨(some 18), .fieldA 1 (.t 2), none, none⟩,
    ⟨(some 19), .load none (.t 18), none, none⟩,
    ⟨(some 20), .mv (.t 1), none, none⟩,
    ⟨(some 21), .bin .add (.t 20) (.c (.v (.int .i64 1))), none, none⟩,
    ⟨(some 22), .slc 11 (.t 19) (some (.t 21)) none, none, none⟩,
    ⟨(some 23), .bslice 1 2 (.sl true []) [(0, (.t 17)), (1, (.t 22))], none, none⟩,
    ⟨(some 24), .mv (.c .junk), none, (some ((.c (.clo f_slices_Concat_Sapi_Rule_api_Rule_ [] [])), [(.t 23)]))⟩,
    ⟨(some 25), .fieldA 1 (.t 2), none, none⟩,
    ⟨none, .store 1 (.t 25) (.t 24), none, none⟩]) .skip))
  (.seq (.reg none [
   ⟨(some 26), .load (some 4) (.t 2), none, none⟩,
   ⟨none, .store 4 (.t 4) (.t 26), none, none⟩])
  .ret)))
theorem Concat_pure {P : Program} (hm : P.follows .mixedOrders = true) {f fg : FuncId} {es by_ : Nat} {z : AV} (hg : HGrow P fg es z) (hb : by_ ≤ 1000) (h : Is P f (c_Concat es by_ fg) [2] 1) {X : Type} {enc : X → AV} (hcl : ∀ x, Closed (enc x)) (hce : ∀ x, (enc x).cells.length = es)
    (L : List (Bool × List X)) (hL : L.length ≤ 1000) (ht : (L.map fun p => p.2.length).sum ≤ 1000000) : PureC P f [.sl true (L.map fun p => .sl p.1 (p.2.map enc))] (.sl false ((L.flatMap (·.2)).map enc)) := by
  have e : AV.sl true (L.map fun p => AV.sl p.1 (p.2.map enc)) = catA (L.map fun p => (p.1, p.2.map enc)) := by simp [catA]
  rw [e]
  refine .of_callR (Concat_callR hm hg hb h (fun p hp x hx => ?_) (by simpa using hL) (by simpa [lenT, Function.comp_def] using ht) (fun v S' ho => ?_))
  · obtain ⟨q, hq, rfl⟩ := List.mem_map.mp hp
    obtain ⟨y, _, rfl⟩ := List.mem_map.mp hx
    exact hce y
  · obtain ⟨_, _, hv, _⟩ := ho
    have e2 : (L.map fun p => (p.1, p.2.map enc)).flatMap (·.2) = (L.flatMap (·.2)).map enc := by
      rw [List.flatMap_map, List.map_flatMap]
    rw [e2] at hv
    exact hv.fz hcl
def without (x : Bk) (i : Int) : Bk := if 0 ≤ i ∧ i < x.rules.length then { x with rules := x.rules.take i.toNat ++ x.rules.drop (i.toNat + 1) } else x
theorem without_ok {x : Bk} (ok : BkOk x) (i : Int) : BkOk (without x i) := by
  unfold without; split
  · exact ⟨ok.v, ok.a, ok.u, ok.vc, ok.ac, ok.uc⟩
  · exact ok
theorem slcX_hi {es : Nat} {xs : List AV} (hc : ∀ y ∈ xs, y.cells.length = es) (i : Int) (h0 : 0 ≤ i) (h : i ≤ xs.length) (S : St) (nid : Nat) : (exSlc es (.sl false xs) none (some (.v (.int .i64 i)))).run S nid = some (.sl false (xs.take i.toNat), S) := by
  simp only [exSlc, Eff.run_val, bnd, Option.bind_some]
  rw [if_pos (by omega)]
  simp only [Option.bind_some]
  rw [if_pos ⟨by omega, by omega, hc⟩]
  simp
theorem slcX_lo {es : Nat} {xs : List AV} (hc : ∀ y ∈ xs, y.cells.length = es) (i : Int) (h0 : 0 ≤ i) (h : i ≤ xs.length) (S : St) (nid : Nat) : (exSlc es (.sl false xs) (some (.v (.int .i64 i))) none).run S nid = some (.sl false (xs.drop i.toNat), S) := by
  simp only [exSlc, Eff.run_val, bnd, Option.bind_some]
  rw [if_pos (by omega)]
  simp only [Option.bind_some]
  rw [if_pos ⟨by omega, by omega, hc⟩]
  simp
theorem verdict_Without_body {P : Program} {fc : FuncId} (x : Bk) (ok : BkOk x) (hx : x.rules.length ≤ 100000) (i : Int) (hc : ∀ a b : List Rul, a.length + b.length ≤ 100000 → PureC P fc [.sl true [.sl false (a.map encRul), .sl false (b.map encRul)]] (.sl false ((a ++ b).map encRul))) :
    AW P (c_verdict_Without fc) (RetC [.c 4 (some 4)] (FzK (encBk (without x i)))) (argF [encBk x, encI i]) S0 := by
  have cl : ∀ y ∈ x.rules.map encRul, y.cells.length = 11 := fun y hy => by obtain ⟨r, _, rfl⟩ := List.mem_map.mp hy; exact Rul_len r
  have cb := closed_Bk (without_ok ok i)
  have hvc := ok.vc
  have hac := ok.ac
  have huc := ok.uc
  by_cases h0 : 0 ≤ i
  · by_cases h1 : i < x.rules.length
    · have hw : without x i = { x with rules := x.rules.take i.toNat ++ x.rules.drop (i.toNat + 1) } := by unfold without; rw [if_pos ⟨h0, h1⟩]
      rw [hw] at cb ⊢
      have s1 := fun S nid => slcX_hi cl i h0 (by simp; omega) S nid
      have s2 := fun S nid => slcX_lo cl (i + 1) (by omega) (by simp; omega) S nid
      have ht : (i + 1).toNat = i.toNat + 1 := by omega
      have hw1 := wrap_in (i + 1) (by omega)
      have hcc := hc (x.rules.take i.toNat) (x.rules.drop (i.toNat + 1)) (by simp; omega)
      have c1 : Closed (.sl true [.sl false ((x.rules.take i.toNat).map encRul), .sl false ((x.rules.drop (i.toNat + 1)).map encRul)]) := .sl _ _ (cl_cons (closed_Ruls _) (cl_cons (closed_Ruls _) cl_nil))
      have c2 := closed_Ruls (x.rules.take i.toNat ++ x.rules.drop (i.toNat + 1))
      rw [List.map_take, List.map_drop] at hcc c1
      have d1 : ∀ n g, CallD P fc [.sl true [.sl false ((x.rules.map encRul).take i.toNat), .sl false ((x.rules.map encRul).drop (i.toNat + 1))]] ⟨n, g⟩ [] (.sl false ((x.rules.take i.toNat ++ x.rules.drop (i.toNat + 1)).map encRul)) :=
        fun n g => CallD.kl hcc (cl_cons c1 cl_nil) c2
      have hr : ∀ S : St, ∀ nid, (exSlc 11 (.sl false (x.rules.map encRul)) (some (.v (.int .i64 (i + 1)))) none).run S nid = some (.sl false ((x.rules.map encRul).drop (i.toNat + 1)), S) := by rw [← ht]; exact s2
      generalize x.rules.take i.toNat ++ x.rules.drop (i.toNat + 1) = R at *
      simp [AW_seq, AW_reg, AW_regD, AW_block, AW_cond, AW_skip, AW_exit, AW_ret, AW_scp, condR_true, condR_false, AThen_normal, AThen_ret, AThen_exit, ABlock_normal, ABlock_ret, ABlock_exit, AScope_normal, AScope_ret, AScope_exit, RetK_ret, RetK_normal, retAV_one, retAV_two, retAV_three, retAV_nil, RG_nil, RG_op, RG_guard, gdR_tt, gdR_ff, gdR_tf, gdR_ft, gdR_un, RG_call, callQ_clo, contK_ap, opR_some, RD_nil, RD_op0, RD_op1, opD0_some, opD1_some, RD_call, callQD_clo, RD_guard, gdD_tt, gdD_ff, gdD_tf, gdD_ft, gdD_un, psh_nil, psh_cons, Apt_nil, Apt_nilT, Apt_true, Apt_false, Dis_def, runT_val, runT_rd, runT_wr, runT_new, runT_mv, ex, put_some, put_none, ev_t, ev_c, argF_zero, argF_succ, set_g, set_n, cells_v, cells_sl, cells_agg, cells_own, cells_ptr, cells_clo, cells_eptr, cells_mp, putc, exBslice, lfill, exField, exIdxV, exIdxP, exBox, exAlloc, exLoad, exStore, exFieldA, exIdxA, exLen, exPick, exUn, exBeq, exMM, exSeq, seqGo, exExt, binV, intOp, subc, AV.solid, S0, encI, encB, c_verdict_Without, encBk, h0, h1, s1, hr, hw1, hvc, hac, huc]
      refine ⟨.sl false (R.map encRul), ⟨[], d1 _ _⟩, ?_⟩
      simp [AW_seq, AW_reg, AW_regD, AW_block, AW_cond, AW_skip, AW_exit, AW_ret, AW_scp, condR_true, condR_false, AThen_normal, AThen_ret, AThen_exit, ABlock_normal, ABlock_ret, ABlock_exit, AScope_normal, AScope_ret, AScope_exit, RetK_ret, RetK_normal, retAV_one, retAV_two, retAV_three, retAV_nil, RG_nil, RG_op, RG_guard, gdR_tt, gdR_ff, gdR_tf, gdR_ft, gdR_un, RG_call, callQ_clo, contK_ap, opR_some, RD_nil, RD_op0, RD_op1, opD0_some, opD1_some, RD_call, callQD_clo, RD_guard, gdD_tt, gdD_ff, gdD_tf, gdD_ft, gdD_un, psh_nil, psh_cons, Apt_nil, Apt_nilT, Apt_true, Apt_false, Dis_def, runT_val, runT_rd, runT_wr, runT_new, runT_mv, ex, put_some, put_none, ev_t, ev_c, argF_zero, argF_succ, set_g, set_n, cells_v, cells_sl, cells_agg, cells_own, cells_ptr, cells_clo, cells_eptr, cells_mp, putc, exBslice, lfill, exField, exIdxV, exIdxP, exBox, exAlloc, exLoad, exStore, exFieldA, exIdxA, exLen, exPick, exUn, exBeq, exMM, exSeq, seqGo, exExt, binV, intOp, subc, AV.solid, S0, encI, encB, hvc, hac, huc]
      refine ⟨[.agg [x.vars, .sl false (R.map encRul), x.allows, x.used]], by simp [evC, RV.ev, ldC, put_some, set_g, subc, AV.cells], ?_⟩
      simp [AW_seq, AW_reg, AW_regD, AW_block, AW_cond, AW_skip, AW_exit, AW_ret, AW_scp, condR_true, condR_false, AThen_normal, AThen_ret, AThen_exit, ABlock_normal, ABlock_ret, ABlock_exit, AScope_normal, AScope_ret, AScope_exit, RetK_ret, RetK_normal, retAV_one, retAV_two, retAV_three, retAV_nil, RG_nil, RG_op, RG_guard, gdR_tt, gdR_ff, gdR_tf, gdR_ft, gdR_un, RG_call, callQ_clo, contK_ap, opR_some, RD_nil, RD_op0, RD_op1, opD0_some, opD1_some, RD_call, callQD_clo, RD_guard, gdD_tt, gdD_ff, gdD_tf, gdD_ft, gdD_un, psh_nil, psh_cons, Apt_nil, Apt_nilT, Apt_true, Apt_false, Dis_def, runT_val, runT_rd, runT_wr, runT_new, runT_mv, ex, put_some, put_none, ev_t, ev_c, argF_zero, argF_succ, set_g, set_n, cells_v, cells_sl, cells_agg, cells_own, cells_ptr, cells_clo, cells_eptr, cells_mp, putc, exBslice, lfill, exField, exIdxV, exIdxP, exBox, exAlloc, exLoad, exStore, exFieldA, exIdxA, exLen, exPick, exUn, exBeq, exMM, exSeq, seqGo, exExt, binV, intOp, subc, AV.solid, S0, encI, encB, packC]
      exact .closed _ cb
    · have hw : without x i = x := by unfold without; rw [if_neg (by omega)]
      rw [hw] at cb ⊢
      simp [AW_seq, AW_reg, AW_regD, AW_block, AW_cond, AW_skip, AW_exit, AW_ret, AW_scp, condR_true, condR_false, AThen_normal, AThen_ret, AThen_exit, ABlock_normal, ABlock_ret, ABlock_exit, AScope_normal, AScope_ret, AScope_exit, RetK_ret, RetK_normal, retAV_one, retAV_two, retAV_three, retAV_nil, RG_nil, RG_op, RG_guard, gdR_tt, gdR_ff, gdR_tf, gdR_ft, gdR_un, RG_call, callQ_clo, contK_ap, opR_some, RD_nil, RD_op0, RD_op1, opD0_some, opD1_some, RD_call, callQD_clo, RD_guard, gdD_tt, gdD_ff, gdD_tf, gdD_ft, gdD_un, psh_nil, psh_cons, Apt_nil, Apt_nilT, Apt_true, Apt_false, Dis_def, runT_val, runT_rd, runT_wr, runT_new, runT_mv, ex, put_some, put_none, ev_t, ev_c, argF_zero, argF_succ, set_g, set_n, cells_v, cells_sl, cells_agg, cells_own, cells_ptr, cells_clo, cells_eptr, cells_mp, putc, exBslice, lfill, exField, exIdxV, exIdxP, exBox, exAlloc, exLoad, exStore, exFieldA, exIdxA, exLen, exPick, exUn, exBeq, exMM, exSeq, seqGo, exExt, binV, intOp, subc, AV.solid, S0, encI, encB, c_verdict_Without, encBk, h0, h1, hvc, hac, huc]
      refine ⟨[.agg [x.vars, .sl false (x.rules.map encRul), x.allows, x.used]], by simp [evC, RV.ev, ldC, put_some, set_g, subc, AV.cells], ?_⟩
      simp [AW_seq, AW_reg, AW_regD, AW_block, AW_cond, AW_skip, AW_exit, AW_ret, AW_scp, condR_true, condR_false, AThen_normal, AThen_ret, AThen_exit, ABlock_normal, ABlock_ret, ABlock_exit, AScope_normal, AScope_ret, AScope_exit, RetK_ret, RetK_normal, retAV_one, retAV_two, retAV_three, retAV_nil, RG_nil, RG_op, RG_guard, gdR_tt, gdR_ff, gdR_tf, gdR_ft, gdR_un, RG_call, callQ_clo, contK_ap, opR_some, RD_nil, RD_op0, RD_op1, opD0_some, opD1_some, RD_call, callQD_clo, RD_guard, gdD_tt, gdD_ff, gdD_tf, gdD_ft, gdD_un, psh_nil, psh_cons, Apt_nil, Apt_nilT, Apt_true, Apt_false, Dis_def, runT_val, runT_rd, runT_wr, runT_new, runT_mv, ex, put_some, put_none, ev_t, ev_c, argF_zero, argF_succ, set_g, set_n, cells_v, cells_sl, cells_agg, cells_own, cells_ptr, cells_clo, cells_eptr, cells_mp, putc, exBslice, lfill, exField, exIdxV, exIdxP, exBox, exAlloc, exLoad, exStore, exFieldA, exIdxA, exLen, exPick, exUn, exBeq, exMM, exSeq, seqGo, exExt, binV, intOp, subc, AV.solid, S0, encI, encB, packC]
      exact .closed _ cb
  · have hw : without x i = x := by unfold without; rw [if_neg (by omega)]
    rw [hw] at cb ⊢
    simp [AW_seq, AW_reg, AW_regD, AW_block, AW_cond, AW_skip, AW_exit, AW_ret, AW_scp, condR_true, condR_false, AThen_normal, AThen_ret, AThen_exit, ABlock_normal, ABlock_ret, ABlock_exit, AScope_normal, AScope_ret, AScope_exit, RetK_ret, RetK_normal, retAV_one, retAV_two, retAV_three, retAV_nil, RG_nil, RG_op, RG_guard, gdR_tt, gdR_ff, gdR_tf, gdR_ft, gdR_un, RG_call, callQ_clo, contK_ap, opR_some, RD_nil, RD_op0, RD_op1, opD0_some, opD1_some, RD_call, callQD_clo, RD_guard, gdD_tt, gdD_ff, gdD_tf, gdD_ft, gdD_un, psh_nil, psh_cons, Apt_nil, Apt_nilT, Apt_true, Apt_false, Dis_def, runT_val, runT_rd, runT_wr, runT_new, runT_mv, ex, put_some, put_none, ev_t, ev_c, argF_zero, argF_succ, set_g, set_n, cells_v, cells_sl, cells_agg, cells_own, cells_ptr, cells_clo, cells_eptr, cells_mp, putc, exBslice, lfill, exField, exIdxV, exIdxP, exBox, exAlloc, exLoad, exStore, exFieldA, exIdxA, exLen, exPick, exUn, exBeq, exMM, exSeq, seqGo, exExt, binV, intOp, subc, AV.solid, S0, encI, encB, c_verdict_Without, encBk, h0, hvc, hac, huc]
    refine ⟨[.agg [x.vars, .sl false (x.rules.map encRul), x.allows, x.used]], by simp [evC, RV.ev, ldC, put_some, set_g, subc, AV.cells], ?_⟩
    simp [AW_seq, AW_reg, AW_regD, AW_block, AW_cond, AW_skip, AW_exit, AW_ret, AW_scp, condR_true, condR_false, AThen_normal, AThen_ret, AThen_exit, ABlock_normal, ABlock_ret, ABlock_exit, AScope_normal, AScope_ret, AScope_exit, RetK_ret, RetK_normal, retAV_one, retAV_two, retAV_three, retAV_nil, RG_nil, RG_op, RG_guard, gdR_tt, gdR_ff, gdR_tf, gdR_ft, gdR_un, RG_call, callQ_clo, contK_ap, opR_some, RD_nil, RD_op0, RD_op1, opD0_some, opD1_some, RD_call, callQD_clo, RD_guard, gdD_tt, gdD_ff, gdD_tf, gdD_ft, gdD_un, psh_nil, psh_cons, Apt_nil, Apt_nilT, Apt_true, Apt_false, Dis_def, runT_val, runT_rd, runT_wr, runT_new, runT_mv, ex, put_some, put_none, ev_t, ev_c, argF_zero, argF_succ, set_g, set_n, cells_v, cells_sl, cells_agg, cells_own, cells_ptr, cells_clo, cells_eptr, cells_mp, putc, exBslice, lfill, exField, exIdxV, exIdxP, exBox, exAlloc, exLoad, exStore, exFieldA, exIdxA, exLen, exPick, exUn, exBeq, exMM, exSeq, seqGo, exExt, binV, intOp, subc, AV.solid, S0, encI, encB, packC]
    exact .closed _ cb
theorem idxF_app {X : Type} (p : X → Bool) (a b : List X) : idxF p (a ++ b) = if 0 ≤ idxF p a then idxF p a else if idxF p b < 0 then -1 else a.length + idxF p b := by
  obtain ⟨f1, f2, f3⟩ := idxF_facts p (a ++ b)
  obtain ⟨g1, g2, g3⟩ := idxF_facts p a
  obtain ⟨h1, h2, h3⟩ := idxF_facts p b
  have uniq : ∀ (l : List X) (i : Nat) (hi : i < l.length), p l[i] = true → (∀ j (hj : j < i), p (l[j]'(by omega)) = false) → idxF p l = (i : Int) := by
    intro l i hi h1 h2
    obtain ⟨k1, k2, k3⟩ := idxF_facts p l
    rcases idxF_at (p := p) (l := l) with e | ⟨m, e, hm⟩
    · have := k1 (by omega) _ (List.getElem_mem hi); rw [h1] at this; cases this
    · rcases Nat.lt_trichotomy m i with hmi | hmi | hmi
      · have := h2 m hmi; have h4 := k2 m hm e; rw [this] at h4; cases h4
      · rw [e, hmi]
      · have := k3 i hi (by omega); rw [h1] at this; cases this
  rcases idxF_at (p := p) (l := a) with e | ⟨i, e, hi⟩
  · rw [e, if_neg (by omega)]
    have ha := g1 (by omega)
    rcases idxF_at (p := p) (l := b) with e2 | ⟨j, e2, hj⟩
    · rw [e2, if_pos (by omega)]
      have hb := h1 (by omega)
      rcases idxF_at (p := p) (l := a ++ b) with e3 | ⟨m, e3, hm⟩
      · exact e3
      · have h4 := f2 m hm e3
        have h5 : p (a ++ b)[m] = false := by
          rcases List.mem_append.mp (List.getElem_mem hm) with h | h
          · exact ha _ h
          · exact hb _ h
        rw [h5] at h4; cases h4
    · rw [e2, if_neg (by omega)]
      rw [uniq (a ++ b) (a.length + j) (by simp; omega)]
      · simp
      · rw [List.getElem_append_right (by omega)]; simpa using h2 j hj e2
      · intro m hm
        by_cases hma : m < a.length
        · rw [List.getElem_append_left hma]; exact ha _ (List.getElem_mem hma)
        · rw [List.getElem_append_right (by omega)]; exact h3 _ (by omega) (by omega)
  · rw [e, if_pos (by omega)]
    refine uniq (a ++ b) i (by simp; omega) ?_ (fun m hm => ?_)
    · rw [List.getElem_append_left hi]; exact g2 i hi e
    · rw [List.getElem_append_left (by omega)]; exact g3 m (by omega) (by omega)
theorem idxF_one {X : Type} (p : X → Bool) (r : X) : idxF p [r] = if p r = true then 0 else -1 := by
  obtain ⟨f1, f2, f3⟩ := idxF_facts p [r]
  rcases idxF_at (p := p) (l := [r]) with e | ⟨i, e, hi⟩
  · have := f1 (by omega) r (by simp)
    rw [e, if_neg (by simp [this])]
  · have : i = 0 := by simpa using hi
    subst this
    have := f2 0 (by simp) e
    rw [e, if_pos (by simpa using this)]; rfl
/-! ### VerdictWithout -/
structure VwS (x : Bk) (l : List Int) (k : Nat) (b8 : Nat) (f : AF) (S : St) : Prop where
  e1 : f 1 = encIs l
  e3 : f 3 = .ptr 0 0 0
  e7 : f 7 = encI k
  e8 : f 8 = .ptr b8 0 0
  g0 : S.g 0 = some (.arr 4 [encBk x])
  g8 : S.g b8 = some (.arr 4 [encBk (without x k)])
end Go.Rf


/- Own work: VerdictLast's walk. -/
set_option linter.unusedVariables false
set_option linter.unusedSimpArgs false
namespace Go.Rf
open Go.RowKit

def c_vl_loop (f_verdict_Decides f_verdict_Cut : FuncId) : AC :=
  (.block 0 (.loop (.seq (.seq (.reg none [
     ⟨(some 40), .mv (.t 9), none, none⟩,
     ⟨(some 41), .mv (.t 1), none, none⟩,
     ⟨(some 42), .len (.t 41), none, none⟩,
     ⟨(some 43), .bin .lss (.t 40) (.t 42), none, none⟩])
    (.cond (.t 43) .skip (.exit 0)))
    (.seq (.block 1 (.seq (.reg (some []) [
      ⟨(some 46), .load (some 4) (.t 3), none, none⟩,
      ⟨(some 47), .mv (.t 1), none, none⟩,
      ⟨(some 48), .mv (.t 9), none, none⟩,
      ⟨(some 49), .mv (.c .junk), none, (some ((.c (.clo f_verdict_Decides [] [])), [(.t 46), (.t 47), (.t 48)]))⟩,
      ⟨(some 50), .load (some 4) (.t 8), none, none⟩,
      ⟨(some 51), .mv (.t 1), none, none⟩,
      ⟨(some 52), .mv (.t 9), none, none⟩,
      ⟨(some 53), .mv (.c .junk), none, (some ((.c (.clo f_verdict_Decides [] [])), [(.t 50), (.t 51), (.t 52)]))⟩,
      ⟨(some 10), .mv (.t 49), none, none⟩,
      ⟨(some 11), .mv (.t 53), none, none⟩])
     (.seq (.reg none [
      ⟨(some 54), .mv (.t 10), none, none⟩,
      ⟨(some 55), .bin .geq (.t 54) (.c (.v (.int .i64 0))), none, none⟩,
      ⟨(some 56), .mv (.t 55), none, none⟩,
      ⟨(some 57), .mv (.t 11), (some (56, true)), none⟩,
      ⟨(some 58), .mv (.t 10), (some (56, true)), none⟩,
      ⟨(some 59), .bin .neq (.t 57) (.t 58), (some (56, true)), none⟩,
      ⟨(some 60), .pick (.t 56) (.t 59) (.c (.v (.bool false))), none, none⟩,
      ⟨(some 61), .mv (.t 60), none, none⟩,
      ⟨(some 62), .mv (.t 10), (some (61, false)), none⟩,
      ⟨(some 63), .bin .lss (.t 62) (.c (.v (.int .i64 0))), (some (61, false)), none⟩,
      ⟨(some 64), .mv (.t 63), (some (61, false)), none⟩,
      ⟨(some 65), .mv (.t 11), (some (64, true)), none⟩,
      ⟨(some 66), .fieldA 1 (.t 3), (some (64, true)), none⟩,
      ⟨(some 67), .load none (.t 66), (some (64, true)), none⟩,
      ⟨(some 68), .len (.t 67), (some (64, true)), none⟩,
      ⟨(some 69), .bin .neq (.t 65) (.t 68), (some (64, true)), none⟩,
      ⟨(some 70), .mv (.t 69), (some (64, true)), none⟩,
      ⟨(some 71), .load (some 4) (.t 8), (some (70, false)), none⟩,
      ⟨(some 72), .mv (.t 1), (some (70, false)), none⟩,
      ⟨(some 73), .mv (.t 9), (some (70, false)), none⟩,
      ⟨(some 74), .mv (.c .junk), (some (70, false)), (some ((.c (.clo f_verdict_Cut [] [])), [(.t 71), (.t 72), (.t 73)]))⟩,
      ⟨(some 75), .mv (.t 2), (some (70, false)), none⟩,
      ⟨(some 76), .beq true (.t 74) (.t 75), (some (70, false)), none⟩,
      ⟨(some 77), .pick (.t 70) (.c (.v (.bool true))) (.t 76), (some (64, true)), none⟩,
      ⟨(some 78), .pick (.t 64) (.t 77) (.c (.v (.bool false))), (some (61, false)), none⟩,
      ⟨(some 79), .pick (.t 61) (.c (.v (.bool true))) (.t 78), none, none⟩,
      ⟨(some 80), .mv (.t 79), none, none⟩,
      ⟨(some 81), .mv (.t 11), (some (80, false)), none⟩,
      ⟨(some 82), .bin .lss (.t 81) (.c (.v (.int .i64 0))), (some (80, false)), none⟩,
      ⟨(some 83), .pick (.t 80) (.c (.v (.bool true))) (.t 82), none, none⟩])
     (.cond (.t 83) (.seq (.reg none [
       ⟨(some 6), .mv (.c (.v (.bool false))), none, none⟩])
      .ret) .skip))))
    (.reg none [
     ⟨(some 44), .mv (.t 9), none, none⟩,
     ⟨(some 45), .bin .add (.t 44) (.c (.v (.int .i64 1))), none, none⟩,
     ⟨(some 9), .mv (.t 45), none, none⟩])))))
def c_caesuralaw12_VerdictLast (f_caesuralaw12_alive f_caesuraref09_Great f_verdict_Decides f_verdict_Cut : FuncId) : AC :=
  (.seq (.reg none [
   ⟨(some 3), .box 4 (.t 0), none, none⟩,
   ⟨(some 6), .mv (.c (.v (.bool false))), none, none⟩])
  (.seq (.seq (.reg none [
   ⟨(some 12), .mv (.c .junk), none, (some ((.c (.clo f_caesuralaw12_alive [] [])), []))⟩,
   ⟨(some 13), .un .not (.t 12), none, none⟩])
  (.cond (.t 13) (.seq (.reg none [
    ⟨(some 6), .mv (.c (.v (.bool false))), none, none⟩])
   .ret) .skip))
  (.seq (.seq (.reg none [
   ⟨(some 14), .load (some 4) (.t 3), none, none⟩,
   ⟨(some 15), .mv (.c .junk), none, (some ((.c (.clo f_caesuraref09_Great [] [])), [(.t 14), (.c (.v (.int .i64 300)))]))⟩,
   ⟨(some 16), .mv (.t 15), none, none⟩,
   ⟨(some 17), .mv (.t 1), (some (16, false)), none⟩,
   ⟨(some 18), .len (.t 17), (some (16, false)), none⟩,
   ⟨(some 19), .bin .gtr (.t 18) (.c (.v (.int .i64 10))), (some (16, false)), none⟩,
   ⟨(some 20), .pick (.t 16) (.c (.v (.bool true))) (.t 19), none, none⟩,
   ⟨(some 21), .mv (.t 20), none, none⟩,
   ⟨(some 22), .fieldA 1 (.t 3), (some (21, false)), none⟩,
   ⟨(some 23), .load none (.t 22), (some (21, false)), none⟩,
   ⟨(some 24), .len (.t 23), (some (21, false)), none⟩,
   ⟨(some 25), .bin .gtr (.t 24) (.c (.v (.int .i64 5))), (some (21, false)), none⟩,
   ⟨(some 26), .pick (.t 21) (.c (.v (.bool true))) (.t 25), none, none⟩])
  (.cond (.t 26) (.seq (.reg none [
    ⟨(some 6), .mv (.c (.v (.bool true))), none, none⟩])
   .ret) .skip))
  (.seq (.reg none [
   ⟨(some 27), .build (.agg [(.v (.int .i64 0)), (.sl true []), (.sl true []), (.sl true [])]) [(0, 1)] [(0, (.c (.v (.int .i64 1))))], none, none⟩,
   ⟨(some 7), .alloc (.agg [(.v (.int .i64 0)), (.sl true []), (.sl true []), (.sl true [])]) 4, none, none⟩,
   ⟨none, .store 4 (.t 7) (.t 27), none, none⟩])
  (.seq (.reg none [
   ⟨(some 28), .load (some 4) (.t 3), none, none⟩,
   ⟨(some 8), .alloc (.agg [(.sl true []), (.sl true []), (.sl true []), (.sl true [])]) 4, none, none⟩,
   ⟨none, .store 4 (.t 8) (.t 28), none, none⟩])
  (.seq (.reg (some [[], [], [], [], [true], [false, true], [false, false, true], [false, false, false, true], [false, false, false, false, true]]) [
   ⟨(some 29), .bslice 11 0 (.agg [(.v (.int .i64 0)), (.v (.bool false)), (.v (.int .i64 0)), (.sl true []), (.sl true []), (.sl true []), (.v (.int .i64 0)), (.sl true []), (.sl true []), (.sl true []), (.v (.int .i64 0))]) [], none, none⟩,
   ⟨(some 30), .fieldA 1 (.t 3), none, none⟩,
   ⟨(some 31), .load none (.t 30), none, none⟩,
   ⟨(some 32), .app 11 184 (.t 29) (.t 31), none, none⟩,
   ⟨(some 33), .load (some 4) (.t 7), none, none⟩,
   ⟨(some 34), .load (some 4) (.t 7), none, none⟩,
   ⟨(some 35), .mv (.t 2), none, none⟩,
   ⟨(some 36), .build (.agg [(.v (.int .i64 0)), (.v (.bool false)), (.v (.int .i64 0)), (.sl true []), (.sl true []), (.sl true []), (.v (.int .i64 0)), (.sl true []), (.sl true []), (.sl true []), (.v (.int .i64 0))]) [(2, 4), (6, 4), (1, 1)] [(2, (.t 33)), (3, (.t 34)), (1, (.t 35))], none, none⟩,
   ⟨(some 37), .bslice 11 1 (.agg [(.v (.int .i64 0)), (.v (.bool false)), (.v (.int .i64 0)), (.sl true []), (.sl true []), (.sl true []), (.v (.int .i64 0)), (.sl true []), (.sl true []), (.sl true []), (.v (.int .i64 0))]) [(0, (.t 36))], none, none⟩,
   ⟨(some 38), .app 11 184 (.t 32) (.t 37), none, none⟩,
   ⟨(some 39), .fieldA 1 (.t 8), none, none⟩,
   ⟨none, .store 1 (.t 39) (.t 38), none, none⟩])
  (.seq (.seq (.reg none [
   ⟨(some 9), .mv (.c (.v (.int .i64 1))), none, none⟩])
  (c_vl_loop f_verdict_Decides f_verdict_Cut))
  (.seq (.reg none [
   ⟨(some 84), .load (some 4) (.t 8), none, none⟩,
   ⟨(some 85), .mv (.t 1), none, none⟩,
   ⟨(some 86), .mv (.c .junk), none, (some ((.c (.clo f_verdict_Decides [] [])), [(.t 84), (.t 85), (.c (.v (.int .i64 0)))]))⟩,
   ⟨(some 87), .bin .eql (.t 86) (.c (.v (.int .i64 (-1)))), none, none⟩,
   ⟨(some 88), .mv (.t 87), none, none⟩,
   ⟨(some 89), .load (some 4) (.t 8), (some (88, true)), none⟩,
   ⟨(some 90), .mv (.t 1), (some (88, true)), none⟩,
   ⟨(some 91), .mv (.t 1), (some (88, true)), none⟩,
   ⟨(some 92), .len (.t 91), (some (88, true)), none⟩,
   ⟨(some 93), .mv (.c .junk), (some (88, true)), (some ((.c (.clo f_verdict_Decides [] [])), [(.t 89), (.t 90), (.t 92)]))⟩,
   ⟨(some 94), .bin .eql (.t 93) (.c (.v (.int .i64 (-1)))), (some (88, true)), none⟩,
   ⟨(some 95), .pick (.t 88) (.t 94) (.c (.v (.bool false))), none, none⟩,
   ⟨(some 6), .mv (.t 95), none, none⟩])
  .ret))))))))
def noP : Pat := .mk 1 [] [] []
def newR (c : Bool) : Rul := ⟨0, c, noP, noP, 0⟩
def lastB (x : Bk) (c : Bool) : Bk := { x with rules := x.rules ++ [newR c] }
theorem lastB_ok {x : Bk} (ok : BkOk x) (c : Bool) : BkOk (lastB x c) := ⟨ok.v, ok.a, ok.u, ok.vc, ok.ac, ok.uc⟩
theorem ends_no (l : List Int) (i : Int) (h0 : 0 ≤ i) (h1 : i ≤ l.length) : endsP noP l i ≠ [] := by
  intro h
  have hm : i ∈ endsP noP l i := by
    unfold endsP
    rw [if_neg (by omega)]
    refine (List.mergeSort_perm _ _).mem_iff.mpr (mem_ddp.mpr ?_)
    simp [noP, visits]
  rw [h] at hm; cases hm
theorem begins_no (l : List Int) (i : Int) (h0 : 0 ≤ i) (h1 : i ≤ l.length) : beginsP (turnP noP) l i ≠ [] := by
  unfold beginsP
  rw [if_neg (by omega)]
  have ht : turnP noP = noP := by simp [noP, turnP, turnPs]
  rw [ht]
  have := ends_no l.reverse ((l.length : Int) - i) (by omega) (by simp; omega)
  simpa using this
theorem verM_new (c : Bool) (l : List Int) (i : Int) (h0 : 0 ≤ i) (h1 : i ≤ l.length) : verM (newR c) l i = true := by
  unfold verM newR
  simp [ends_no l i h0 h1, begins_no l i h0 h1]
theorem decP_last {x : Bk} {l : List Int} {i : Int} (c : Bool) (hin : innerB l i = true) : decP (lastB x c) l i = if 0 ≤ decP x l i then decP x l i else x.rules.length := by
  have hb : 0 < i ∧ i < l.length := by simpa [innerB] using hin
  unfold decP
  rw [if_pos hin, if_pos hin]
  show idxF _ (x.rules ++ [newR c]) = _
  rw [idxF_app, idxF_one, if_pos (verM_new c l i (by omega) (by omega))]
  simp
theorem decP_out {x : Bk} {l : List Int} {i : Int} (h : innerB l i = false) : decP x l i = -1 := by unfold decP; rw [h]; simp
theorem cutB_last {x : Bk} {l : List Int} {i : Int} (c : Bool) (hin : innerB l i = true) (h : decP x l i < 0) : cutB (lastB x c) l i = c := by
  unfold cutB
  rw [hin, decP_last c hin, if_neg (by omega)]
  simp only [Bool.true_and]
  have : ¬ ((x.rules.length : Int) < 0) := by omega
  simp only [this, decide_false, Bool.false_or]
  unfold rcut lastB
  simp [newR]
/-- What is built for the new rule. -/
def newA (c : Bool) : AV := .agg [encI 0, encB c, encI 1, .sl true [], .sl true [], .sl true [], encI 1, .sl true [], .sl true [], .sl true [], encI 0]
theorem newA_fz (g : Nat → Option Blk) (c : Bool) : Fz g (newA c) (encRul (newR c)) := by
  have e : encRul (newR c) = .agg [encI 0, encB c, encI 1, .sl false [], .sl false [], .sl false [], encI 1, .sl false [], .sl false [], .sl false [], encI 0] := by
    simp [encRul, newR, noP, encPat_eq, AV.cells, encRs, encIs]
  have hl : ∀ g, Fz g (.sl true []) (.sl false []) := fun g => .loose true [] (.sl _ _ (by simp))
  rw [e]
  refine .agg _ _ rfl (fun i h1 h2 => ?_)
  match i, h1 with
  | 0, _ => exact .closed _ (closed_I _)
  | 1, _ => exact .closed _ (closed_B _)
  | 2, _ => exact .closed _ (closed_I _)
  | 3, _ => exact hl _
  | 4, _ => exact hl _
  | 5, _ => exact hl _
  | 6, _ => exact .closed _ (closed_I _)
  | 7, _ => exact hl _
  | 8, _ => exact hl _
  | 9, _ => exact hl _
  | 10, _ => exact .closed _ (closed_I _)
def lastA (x : Bk) (rid : Nat) : AV := .agg [x.vars, .own rid 0 (x.rules.length + 1), x.allows, x.used]
theorem lastA_fz {x : Bk} (ok : BkOk x) (c : Bool) {g : Nat → Option Blk} {rid : Nat} (hg : g rid = some (.arr 11 (x.rules.map encRul ++ [newA c]))) : Fz g (lastA x rid) (encBk (lastB x c)) := by
  refine .agg _ _ rfl (fun i h1 h2 => ?_)
  match i, h1 with
  | 0, _ => exact .closed _ ok.v
  | 1, _ =>
    refine .own rid 0 (x.rules.length + 1) 11 (x.rules.map encRul ++ [newA c]) ((lastB x c).rules.map encRul) hg (by simp) (by simp [lastB]) (fun j a b => ?_)
    have hj : j < x.rules.length + 1 := by simpa [lastB] using b
    simp only [List.drop_zero, List.getElem_take, lastB, List.map_append, List.map_cons, List.map_nil]
    by_cases h : j < x.rules.length
    · rw [List.getElem_append_left (by simpa using h), List.getElem_append_left (by simpa using h)]
      simp only [List.getElem_map]
      exact .closed _ (closed_Rul _)
    · rw [List.getElem_append_right (by simp; omega), List.getElem_append_right (by simp; omega)]
      have : j - (x.rules.map encRul).length = 0 := by simp; omega
      simp only [this, List.getElem_cons_zero]
      exact newA_fz _ c
  | 2, _ => exact .closed _ ok.a
  | 3, _ => exact .closed _ ok.u
theorem CallD.look {P : Program} {f : FuncId} {args args' : List AV} {r : AV} {S : St} {F : List Nat} (h : PureC P f args' r) (hz : FzL (only F S.g) args args') (hr : Plain r) : CallD P f args S F r := ⟨args', h, hz.1, hz.2, .inl hr⟩
structure VlS (x : Bk) (l : List Int) (c : Bool) (b8 rid : Nat) (f : AF) (S : St) : Prop where
  e1 : f 1 = encIs l
  e2 : f 2 = encB c
  e3 : f 3 = .ptr 0 0 0
  e8 : f 8 = .ptr b8 0 0
  g0 : S.g 0 = some (.arr 4 [encBk x])
  g8 : S.g b8 = some (.arr 4 [lastA x rid])
  gr : S.g rid = some (.arr 11 (x.rules.map encRul ++ [newA c]))
def VlI (x : Bk) (l : List Int) (c : Bool) (b8 rid : Nat) (i : Nat) (f : AF) (S : St) : Prop := VlS x l c b8 rid f S ∧ f 9 = encI ((i : Int) + 1)
theorem vl_loop {P : Program} {fd fc : FuncId} {x : Bk} (ok : BkOk x) {l : List Int} {c : Bool} {b8 rid : Nat} (hl : l.length ≤ 10) (hx : x.rules.length ≤ 5)
    (hd : ∀ y : Bk, y = x ∨ y = lastB x c → ∀ i : Int, PureC P fd [encBk y, encIs l, encI i] (encI (decP y l i)) ∧ PureC P fc [encBk y, encIs l, encI i] (encB (cutB y l i)))
    {f : AF} {S : St} {Q : Exit → AF → St → Prop} (h0 : VlI x l c b8 rid 0 f S) (hQ : ∀ f' S', VlS x l c b8 rid f' S' → Q .normal f' S') : AW P (c_vl_loop fd fc) Q f S := by
  simp [AW_seq, AW_reg, AW_regD, AW_block, AW_cond, AW_skip, AW_exit, AW_ret, AW_scp, condR_true, condR_false, AThen_normal, AThen_ret, AThen_exit, ABlock_normal, ABlock_ret, ABlock_exit, AScope_normal, AScope_ret, AScope_exit, RetK_ret, RetK_normal, retAV_one, retAV_two, retAV_three, retAV_nil, RG_nil, RG_op, RG_guard, gdR_tt, gdR_ff, gdR_tf, gdR_ft, gdR_un, RG_call, callQ_clo, contK_ap, opR_some, RD_nil, RD_op0, RD_op1, opD0_some, opD1_some, RD_call, callQD_clo, RD_guard, gdD_tt, gdD_ff, gdD_tf, gdD_ft, gdD_un, psh_nil, psh_cons, Apt_nil, Apt_nilT, Apt_true, Apt_false, Dis_def, runT_val, runT_rd, runT_wr, runT_new, runT_mv, ex, put_some, put_none, ev_t, ev_c, argF_zero, argF_succ, set_g, set_n, cells_v, cells_sl, cells_agg, cells_own, cells_ptr, cells_clo, cells_eptr, cells_mp, putc, exBslice, lfill, exField, exIdxV, exIdxP, exBox, exAlloc, exLoad, exStore, exFieldA, exIdxA, exLen, exPick, exUn, exBeq, exMM, exSeq, seqGo, exExt, binV, intOp, subc, AV.solid, S0, encI, encB, c_vl_loop]
  refine AW_for (l.length - 1) (VlI x l c b8 rid) h0 ?_
  rintro i f S hi ⟨⟨e1, e2, e3, e8, g0, g8, gr⟩, e9⟩
  have kept := (⟨g0, g8, gr⟩ : S.g 0 = some (.arr 4 [encBk x]) ∧ S.g b8 = some (.arr 4 [lastA x rid]) ∧ S.g rid = some (.arr 11 (x.rules.map encRul ++ [newA c])))
  by_cases hlt : (i : Int) + 1 < l.length
  · have hin : innerB l ((i : Int) + 1) = true := by unfold innerB; simp; omega
    have q1 := decP_last (x := x) c hin
    have q2 := cutB_last (x := x) c hin
    obtain ⟨dx, cx⟩ := hd x (.inl rfl) ((i : Int) + 1)
    obtain ⟨dy, cy⟩ := hd _ (.inr rfl) ((i : Int) + 1)
    have cbx := cl_cons (closed_Bk ok) (cl_cons (closed_Is l) (cl_cons (closed_I ((i : Int) + 1)) cl_nil))
    have fz2 : ∀ (S2 : St), S2.g = S.g → FzL S2.g [lastA x rid, encIs l, encI ((i : Int) + 1)] [encBk (lastB x c), encIs l, encI ((i : Int) + 1)] := fun S2 h2 =>
      .cons (by rw [h2]; exact lastA_fz ok c gr) (.cons (.closed _ (closed_Is l)) (.cons (.closed _ (closed_I _)) .nil))
    have fz : ∀ (S2 : St), S2.g = S.g → FzL (only [rid] S2.g) [lastA x rid, encIs l, encI ((i : Int) + 1)] [encBk (lastB x c), encIs l, encI ((i : Int) + 1)] := fun S2 h2 =>
      .cons (by rw [h2]; exact lastA_fz ok c (by simp [only, gr])) (.cons (.closed _ (closed_Is l)) (.cons (.closed _ (closed_I _)) .nil))
    have b1 : -1 ≤ decP x l ((i : Int) + 1) ∧ decP x l ((i : Int) + 1) ≤ 5 := by
      rcases decP_at x l ((i : Int) + 1) with e | ⟨j, e, hj⟩ <;> omega
    have hvx := ok.vc
    have hax := ok.ac
    have hux := ok.uc
    generalize decP x l ((i : Int) + 1) = a at *
    generalize decP (lastB x c) l ((i : Int) + 1) = b at *
    generalize cutB (lastB x c) l ((i : Int) + 1) = w at *
    simp only [encBk, encIs, encI, lastA] at g0 g8 dx cbx fz fz2
    have d1 : ∀ n, CallD P fd _ ⟨n, S.g⟩ [] _ := fun n => CallD.kl dx cbx (closed_I a)
    have d2 : ∀ n, CallD P fd _ ⟨n, S.g⟩ [rid] _ := fun n => CallD.look dy (fz ⟨n, S.g⟩ rfl) (plain_I b)
    simp [AW_seq, AW_reg, AW_regD, AW_block, AW_cond, AW_skip, AW_exit, AW_ret, AW_scp, condR_true, condR_false, AThen_normal, AThen_ret, AThen_exit, ABlock_normal, ABlock_ret, ABlock_exit, AScope_normal, AScope_ret, AScope_exit, RetK_ret, RetK_normal, retAV_one, retAV_two, retAV_three, retAV_nil, RG_nil, RG_op, RG_guard, gdR_tt, gdR_ff, gdR_tf, gdR_ft, gdR_un, RG_call, callQ_clo, contK_ap, opR_some, RD_nil, RD_op0, RD_op1, opD0_some, opD1_some, RD_call, callQD_clo, RD_guard, gdD_tt, gdD_ff, gdD_tf, gdD_ft, gdD_un, psh_nil, psh_cons, Apt_nil, Apt_nilT, Apt_true, Apt_false, Dis_def, runT_val, runT_rd, runT_wr, runT_new, runT_mv, ex, put_some, put_none, ev_t, ev_c, argF_zero, argF_succ, set_g, set_n, cells_v, cells_sl, cells_agg, cells_own, cells_ptr, cells_clo, cells_eptr, cells_mp, putc, exBslice, lfill, exField, exIdxV, exIdxP, exBox, exAlloc, exLoad, exStore, exFieldA, exIdxA, exLen, exPick, exUn, exBeq, exMM, exSeq, seqGo, exExt, binV, intOp, subc, AV.solid, S0, encI, encB, e1, e2, e3, e8, e9, g0, g8, encIs, hlt]
    refine ⟨encI a, ⟨[], d1 _⟩, ?_⟩
    simp [AW_seq, AW_reg, AW_regD, AW_block, AW_cond, AW_skip, AW_exit, AW_ret, AW_scp, condR_true, condR_false, AThen_normal, AThen_ret, AThen_exit, ABlock_normal, ABlock_ret, ABlock_exit, AScope_normal, AScope_ret, AScope_exit, RetK_ret, RetK_normal, retAV_one, retAV_two, retAV_three, retAV_nil, RG_nil, RG_op, RG_guard, gdR_tt, gdR_ff, gdR_tf, gdR_ft, gdR_un, RG_call, callQ_clo, contK_ap, opR_some, RD_nil, RD_op0, RD_op1, opD0_some, opD1_some, RD_call, callQD_clo, RD_guard, gdD_tt, gdD_ff, gdD_tf, gdD_ft, gdD_un, psh_nil, psh_cons, Apt_nil, Apt_nilT, Apt_true, Apt_false, Dis_def, runT_val, runT_rd, runT_wr, runT_new, runT_mv, ex, put_some, put_none, ev_t, ev_c, argF_zero, argF_succ, set_g, set_n, cells_v, cells_sl, cells_agg, cells_own, cells_ptr, cells_clo, cells_eptr, cells_mp, putc, exBslice, lfill, exField, exIdxV, exIdxP, exBox, exAlloc, exLoad, exStore, exFieldA, exIdxA, exLen, exPick, exUn, exBeq, exMM, exSeq, seqGo, exExt, binV, intOp, subc, AV.solid, S0, encI, encB, e1, e2, e3, e8, e9, g0, g8, encIs, hlt]
    refine ⟨encI b, ⟨[rid], d2 _⟩, ?_⟩
    by_cases ha : 0 ≤ a
    · rw [if_pos ha] at q1
      subst q1
      have n1 : ¬ b < 0 := by omega
      simp [AW_seq, AW_reg, AW_regD, AW_block, AW_cond, AW_skip, AW_exit, AW_ret, AW_scp, condR_true, condR_false, AThen_normal, AThen_ret, AThen_exit, ABlock_normal, ABlock_ret, ABlock_exit, AScope_normal, AScope_ret, AScope_exit, RetK_ret, RetK_normal, retAV_one, retAV_two, retAV_three, retAV_nil, RG_nil, RG_op, RG_guard, gdR_tt, gdR_ff, gdR_tf, gdR_ft, gdR_un, RG_call, callQ_clo, contK_ap, opR_some, RD_nil, RD_op0, RD_op1, opD0_some, opD1_some, RD_call, callQD_clo, RD_guard, gdD_tt, gdD_ff, gdD_tf, gdD_ft, gdD_un, psh_nil, psh_cons, Apt_nil, Apt_nilT, Apt_true, Apt_false, Dis_def, runT_val, runT_rd, runT_wr, runT_new, runT_mv, ex, put_some, put_none, ev_t, ev_c, argF_zero, argF_succ, set_g, set_n, cells_v, cells_sl, cells_agg, cells_own, cells_ptr, cells_clo, cells_eptr, cells_mp, putc, exBslice, lfill, exField, exIdxV, exIdxP, exBox, exAlloc, exLoad, exStore, exFieldA, exIdxA, exLen, exPick, exUn, exBeq, exMM, exSeq, seqGo, exExt, binV, intOp, subc, AV.solid, S0, encI, encB, e1, e2, e3, e8, e9, g0, g8, encIs, hlt, ha, n1]
      rw [wrap_in _ (by omega)]
      refine ⟨by omega, ⟨?_, ?_, ?_, ?_, kept.1, kept.2.1, kept.2.2⟩, ?_⟩ <;> simp [put_some, e1, e2, e3, e8, encI, encIs, encB]
    · rw [if_neg ha] at q1
      have hw := q2 (by omega)
      subst q1; subst hw
      have n1 : a < 0 := by omega
      have n2 : ¬ ((x.rules.length : Int) < 0) := by omega
      have n3 : ((x.rules.length : Int) != (x.rules.length : Int)) = false := by simp
      simp [AW_seq, AW_reg, AW_regD, AW_block, AW_cond, AW_skip, AW_exit, AW_ret, AW_scp, condR_true, condR_false, AThen_normal, AThen_ret, AThen_exit, ABlock_normal, ABlock_ret, ABlock_exit, AScope_normal, AScope_ret, AScope_exit, RetK_ret, RetK_normal, retAV_one, retAV_two, retAV_three, retAV_nil, RG_nil, RG_op, RG_guard, gdR_tt, gdR_ff, gdR_tf, gdR_ft, gdR_un, RG_call, callQ_clo, contK_ap, opR_some, RD_nil, RD_op0, RD_op1, opD0_some, opD1_some, RD_call, callQD_clo, RD_guard, gdD_tt, gdD_ff, gdD_tf, gdD_ft, gdD_un, psh_nil, psh_cons, Apt_nil, Apt_nilT, Apt_true, Apt_false, Dis_def, runT_val, runT_rd, runT_wr, runT_new, runT_mv, ex, put_some, put_none, ev_t, ev_c, argF_zero, argF_succ, set_g, set_n, cells_v, cells_sl, cells_agg, cells_own, cells_ptr, cells_clo, cells_eptr, cells_mp, putc, exBslice, lfill, exField, exIdxV, exIdxP, exBox, exAlloc, exLoad, exStore, exFieldA, exIdxA, exLen, exPick, exUn, exBeq, exMM, exSeq, seqGo, exExt, binV, intOp, subc, AV.solid, S0, encI, encB, e1, e2, e3, e8, e9, g0, g8, encIs, hlt, ha, n1, n2, n3]
      refine CallR.looks cy (fz2 ⟨S.n + 4 + 10 + 30, S.g⟩ rfl) (plain_B _) ?_
      simp [AW_seq, AW_reg, AW_regD, AW_block, AW_cond, AW_skip, AW_exit, AW_ret, AW_scp, condR_true, condR_false, AThen_normal, AThen_ret, AThen_exit, ABlock_normal, ABlock_ret, ABlock_exit, AScope_normal, AScope_ret, AScope_exit, RetK_ret, RetK_normal, retAV_one, retAV_two, retAV_three, retAV_nil, RG_nil, RG_op, RG_guard, gdR_tt, gdR_ff, gdR_tf, gdR_ft, gdR_un, RG_call, callQ_clo, contK_ap, opR_some, RD_nil, RD_op0, RD_op1, opD0_some, opD1_some, RD_call, callQD_clo, RD_guard, gdD_tt, gdD_ff, gdD_tf, gdD_ft, gdD_un, psh_nil, psh_cons, Apt_nil, Apt_nilT, Apt_true, Apt_false, Dis_def, runT_val, runT_rd, runT_wr, runT_new, runT_mv, ex, put_some, put_none, ev_t, ev_c, argF_zero, argF_succ, set_g, set_n, cells_v, cells_sl, cells_agg, cells_own, cells_ptr, cells_clo, cells_eptr, cells_mp, putc, exBslice, lfill, exField, exIdxV, exIdxP, exBox, exAlloc, exLoad, exStore, exFieldA, exIdxA, exLen, exPick, exUn, exBeq, exMM, exSeq, seqGo, exExt, binV, intOp, subc, AV.solid, S0, encI, encB, e1, e2, e3, e8, e9, g0, g8, encIs, n2]
      rw [wrap_in _ (by omega)]
      refine ⟨by omega, ⟨?_, ?_, ?_, ?_, kept.1, kept.2.1, kept.2.2⟩, ?_⟩ <;> simp [put_some, e1, e2, e3, e8, encI, encIs, encB]
  · simp [AW_seq, AW_reg, AW_regD, AW_block, AW_cond, AW_skip, AW_exit, AW_ret, AW_scp, condR_true, condR_false, AThen_normal, AThen_ret, AThen_exit, ABlock_normal, ABlock_ret, ABlock_exit, AScope_normal, AScope_ret, AScope_exit, RetK_ret, RetK_normal, retAV_one, retAV_two, retAV_three, retAV_nil, RG_nil, RG_op, RG_guard, gdR_tt, gdR_ff, gdR_tf, gdR_ft, gdR_un, RG_call, callQ_clo, contK_ap, opR_some, RD_nil, RD_op0, RD_op1, opD0_some, opD1_some, RD_call, callQD_clo, RD_guard, gdD_tt, gdD_ff, gdD_tf, gdD_ft, gdD_un, psh_nil, psh_cons, Apt_nil, Apt_nilT, Apt_true, Apt_false, Dis_def, runT_val, runT_rd, runT_wr, runT_new, runT_mv, ex, put_some, put_none, ev_t, ev_c, argF_zero, argF_succ, set_g, set_n, cells_v, cells_sl, cells_agg, cells_own, cells_ptr, cells_clo, cells_eptr, cells_mp, putc, exBslice, lfill, exField, exIdxV, exIdxP, exBox, exAlloc, exLoad, exStore, exFieldA, exIdxA, exLen, exPick, exUn, exBeq, exMM, exSeq, seqGo, exExt, binV, intOp, subc, AV.solid, S0, encI, encB, e1, e2, e3, e8, e9, encIs, hlt]
    refine hQ _ _ ⟨?_, ?_, ?_, ?_, kept.1, kept.2.1, kept.2.2⟩ <;> simp [put_some, e1, e2, e3, e8, encIs]
theorem app_T0 {es by_ : Nat} (S : St) (nid : Nat) (h : appOk by_ 0 0) : (exApp es by_ (.sl true []) (.sl false [])).runT S nid = some (.sl true [], S, [], []) := by
  simp [exApp, AV.oid, Eff.runT, lstE, h, St.setL, St.setO]
theorem app_T1 {es by_ : Nat} {xs : List AV} (S : St) (nid : Nat) (hc : ∀ y ∈ xs, y.cells.length = es) (h : appOk by_ 0 xs.length) (h0 : xs ≠ []) : (exApp es by_ (.sl true []) (.sl false xs)).runT S nid = some (.own nid 0 xs.length, S.set nid (some (.arr es xs)), [], [nid]) := by
  have hl : lstE es [] (.sl false xs) = some xs := by simp only [lstE]; rw [if_pos hc]
  have hn : ¬ xs.length = 0 := by simpa using h0
  simp [exApp, AV.oid, Eff.runT, hl, h, h0, St.setL, St.setO]
theorem app_R1 {es by_ id nid : Nat} {xs : List AV} {z : AV} {S : St} (hg : S.g id = some (.arr es xs)) (hz : z.cells.length = es) (h : appOk by_ xs.length 1) : (exApp es by_ (.own id 0 xs.length) (.sl true [z])).run S nid = some (.own nid 0 (xs.length + 1), (S.set id none).set nid (some (.arr es (xs ++ [z])))) := by
  have hl : lstE es [] (.sl true [z]) = some [z] := by simp only [lstE]; rw [if_pos (by simpa using hz)]
  have ho : (AV.sl true [z]).oid = [] := rfl
  have hne : ([] : List Nat) ≠ [id] := by simp
  simp only [exApp, Eff.run, ho, List.mapM_cons, List.mapM_nil, hg, Option.pure_def, Option.bind_eq_bind, Option.bind_some, hl]
  rw [if_pos ⟨trivial, by simp, by simpa using h, hne⟩]
  simp [St.setL, St.setO]
theorem app_R0 {es by_ nid : Nat} {z : AV} {S : St} (hz : z.cells.length = es) (h : appOk by_ 0 1) : (exApp es by_ (.sl true []) (.sl true [z])).run S nid = some (.own nid 0 1, S.set nid (some (.arr es [z]))) := by
  have hl : lstE es [] (.sl true [z]) = some [z] := by simp only [lstE]; rw [if_pos (by simpa using hz)]
  simp [exApp, AV.oid, Eff.run, hl, h, St.setL, St.setO]
theorem vl_end {P : Program} {fd fc : FuncId} {x : Bk} (ok : BkOk x) {l : List Int} {c : Bool} {b8 rid : Nat}
    (hd : ∀ y : Bk, y = x ∨ y = lastB x c → ∀ i : Int, PureC P fd [encBk y, encIs l, encI i] (encI (decP y l i)) ∧ PureC P fc [encBk y, encIs l, encI i] (encB (cutB y l i))) {f : AF} {S : St} (hs : VlS x l c b8 rid f S) :
    AThen (AW P ((AC.reg none
              [{ dst := some 84, op := AOp.load (some 4) (Opd.t 8), guard := none, call := none },
                { dst := some 85, op := AOp.mv (Opd.t 1), guard := none, call := none },
                { dst := some 86, op := AOp.mv (Opd.c AV.junk), guard := none, call := some (Opd.c (AV.clo fd [] []), [Opd.t 84, Opd.t 85, Opd.c (AV.v (Value.int IntKind.i64 0))]) },
                { dst := some 87, op := AOp.bin BinOp.eql (Opd.t 86) (Opd.c (AV.v (Value.int IntKind.i64 (-1)))), guard := none, call := none },
                { dst := some 88, op := AOp.mv (Opd.t 87), guard := none, call := none },
                { dst := some 89, op := AOp.load (some 4) (Opd.t 8), guard := some (88, true), call := none },
                { dst := some 90, op := AOp.mv (Opd.t 1), guard := some (88, true), call := none },
                { dst := some 91, op := AOp.mv (Opd.t 1), guard := some (88, true), call := none },
                { dst := some 92, op := AOp.len (Opd.t 91), guard := some (88, true), call := none },
                { dst := some 93, op := AOp.mv (Opd.c AV.junk), guard := some (88, true), call := some (Opd.c (AV.clo fd [] []), [Opd.t 89, Opd.t 90, Opd.t 92]) },
                { dst := some 94, op := AOp.bin BinOp.eql (Opd.t 93) (Opd.c (AV.v (Value.int IntKind.i64 (-1)))), guard := some (88, true), call := none },
                { dst := some 95, op := AOp.pick (Opd.t 88) (Opd.t 94) (Opd.c (AV.v (Value.bool false))), guard := none, call := none },
                { dst := some 6, op := AOp.mv (Opd.t 95), guard := none, call := none }]).seq AC.ret)
        (RetK [6] (FzK (AV.v (Value.bool true))))) (RetK [6] (FzK (AV.v (Value.bool true)))) .normal f S := by
  obtain ⟨e1, e2, e3, e8, g0, g8, gr⟩ := hs
  have k1 := (hd _ (.inr rfl) 0).1
  have k2 := (hd _ (.inr rfl) (l.length : Int)).1
  rw [decP_out (by simp [innerB])] at k1 k2
  have hv := ok.vc
  have ha := ok.ac
  have hu := ok.uc
  have fz : ∀ i : Int, FzL S.g [lastA x rid, encIs l, encI i] [encBk (lastB x c), encIs l, encI i] := fun i => .cons (lastA_fz ok c gr) (.cons (.closed _ (closed_Is l)) (.cons (.closed _ (closed_I _)) .nil))
  have f1 := fz 0
  have f2 := fz l.length
  simp only [lastA, encIs, encI] at g8 f1 f2
  simp [AW_seq, AW_reg, AW_regD, AW_block, AW_cond, AW_skip, AW_exit, AW_ret, AW_scp, condR_true, condR_false, AThen_normal, AThen_ret, AThen_exit, ABlock_normal, ABlock_ret, ABlock_exit, AScope_normal, AScope_ret, AScope_exit, RetK_ret, RetK_normal, retAV_one, retAV_two, retAV_three, retAV_nil, RG_nil, RG_op, RG_guard, gdR_tt, gdR_ff, gdR_tf, gdR_ft, gdR_un, RG_call, callQ_clo, contK_ap, opR_some, RD_nil, RD_op0, RD_op1, opD0_some, opD1_some, RD_call, callQD_clo, RD_guard, gdD_tt, gdD_ff, gdD_tf, gdD_ft, gdD_un, psh_nil, psh_cons, Apt_nil, Apt_nilT, Apt_true, Apt_false, Dis_def, runT_val, runT_rd, runT_wr, runT_new, runT_mv, ex, put_some, put_none, ev_t, ev_c, argF_zero, argF_succ, set_g, set_n, cells_v, cells_sl, cells_agg, cells_own, cells_ptr, cells_clo, cells_eptr, cells_mp, putc, exBslice, lfill, exField, exIdxV, exIdxP, exBox, exAlloc, exLoad, exStore, exFieldA, exIdxA, exLen, exPick, exUn, exBeq, exMM, exSeq, seqGo, exExt, binV, intOp, subc, AV.solid, S0, encI, encB, e1, e8, g8, encIs]
  refine CallR.looks k1 (S := ⟨S.n + 13, S.g⟩) f1 (plain_I _) ?_
  simp [AW_seq, AW_reg, AW_regD, AW_block, AW_cond, AW_skip, AW_exit, AW_ret, AW_scp, condR_true, condR_false, AThen_normal, AThen_ret, AThen_exit, ABlock_normal, ABlock_ret, ABlock_exit, AScope_normal, AScope_ret, AScope_exit, RetK_ret, RetK_normal, retAV_one, retAV_two, retAV_three, retAV_nil, RG_nil, RG_op, RG_guard, gdR_tt, gdR_ff, gdR_tf, gdR_ft, gdR_un, RG_call, callQ_clo, contK_ap, opR_some, RD_nil, RD_op0, RD_op1, opD0_some, opD1_some, RD_call, callQD_clo, RD_guard, gdD_tt, gdD_ff, gdD_tf, gdD_ft, gdD_un, psh_nil, psh_cons, Apt_nil, Apt_nilT, Apt_true, Apt_false, Dis_def, runT_val, runT_rd, runT_wr, runT_new, runT_mv, ex, put_some, put_none, ev_t, ev_c, argF_zero, argF_succ, set_g, set_n, cells_v, cells_sl, cells_agg, cells_own, cells_ptr, cells_clo, cells_eptr, cells_mp, putc, exBslice, lfill, exField, exIdxV, exIdxP, exBox, exAlloc, exLoad, exStore, exFieldA, exIdxA, exLen, exPick, exUn, exBeq, exMM, exSeq, seqGo, exExt, binV, intOp, subc, AV.solid, S0, encI, encB, e1, e8, g8, encIs]
  refine CallR.looks k2 (S := ⟨S.n + 13, S.g⟩) f2 (plain_I _) ?_
  simp [AW_seq, AW_reg, AW_regD, AW_block, AW_cond, AW_skip, AW_exit, AW_ret, AW_scp, condR_true, condR_false, AThen_normal, AThen_ret, AThen_exit, ABlock_normal, ABlock_ret, ABlock_exit, AScope_normal, AScope_ret, AScope_exit, RetK_ret, RetK_normal, retAV_one, retAV_two, retAV_three, retAV_nil, RG_nil, RG_op, RG_guard, gdR_tt, gdR_ff, gdR_tf, gdR_ft, gdR_un, RG_call, callQ_clo, contK_ap, opR_some, RD_nil, RD_op0, RD_op1, opD0_some, opD1_some, RD_call, callQD_clo, RD_guard, gdD_tt, gdD_ff, gdD_tf, gdD_ft, gdD_un, psh_nil, psh_cons, Apt_nil, Apt_nilT, Apt_true, Apt_false, Dis_def, runT_val, runT_rd, runT_wr, runT_new, runT_mv, ex, put_some, put_none, ev_t, ev_c, argF_zero, argF_succ, set_g, set_n, cells_v, cells_sl, cells_agg, cells_own, cells_ptr, cells_clo, cells_eptr, cells_mp, putc, exBslice, lfill, exField, exIdxV, exIdxP, exBox, exAlloc, exLoad, exStore, exFieldA, exIdxA, exLen, exPick, exUn, exBeq, exMM, exSeq, seqGo, exExt, binV, intOp, subc, AV.solid, S0, encI, encB]
  exact FzK_B true _
theorem VerdictLast_body {P : Program} {fl fg fd fc : FuncId} (x : Bk) (ok : BkOk x) (l : List Int) (c : Bool) (hl : PureC P fl [] (encB true)) (gn : Bool) (hgn : PureC P fg [encBk x, encI 300] (encB gn))
    (H : gn = false → l.length ≤ 10 → x.rules.length ≤ 5 → ∀ y : Bk, y = x ∨ y = lastB x c → ∀ i : Int, PureC P fd [encBk y, encIs l, encI i] (encI (decP y l i)) ∧ PureC P fc [encBk y, encIs l, encI i] (encB (cutB y l i))) :
    AW P (c_caesuralaw12_VerdictLast fl fg fd fc) (RetK [6] (FzK (encB true))) (argF [encBk x, encIs l, encB c]) S0 := by
  have hv := ok.vc
  have ha := ok.ac
  have hu := ok.uc
  have cb := closed_Bk ok
  have cb2 := cb
  simp only [encBk] at cb2
  have hgn' := hgn
  simp only [encBk, encI] at hgn'
  simp [AW_seq, AW_reg, AW_regD, AW_block, AW_cond, AW_skip, AW_exit, AW_ret, AW_scp, condR_true, condR_false, AThen_normal, AThen_ret, AThen_exit, ABlock_normal, ABlock_ret, ABlock_exit, AScope_normal, AScope_ret, AScope_exit, RetK_ret, RetK_normal, retAV_one, retAV_two, retAV_three, retAV_nil, RG_nil, RG_op, RG_guard, gdR_tt, gdR_ff, gdR_tf, gdR_ft, gdR_un, RG_call, callQ_clo, contK_ap, opR_some, RD_nil, RD_op0, RD_op1, opD0_some, opD1_some, RD_call, callQD_clo, RD_guard, gdD_tt, gdD_ff, gdD_tf, gdD_ft, gdD_un, psh_nil, psh_cons, Apt_nil, Apt_nilT, Apt_true, Apt_false, Dis_def, runT_val, runT_rd, runT_wr, runT_new, runT_mv, ex, put_some, put_none, ev_t, ev_c, argF_zero, argF_succ, set_g, set_n, cells_v, cells_sl, cells_agg, cells_own, cells_ptr, cells_clo, cells_eptr, cells_mp, putc, exBslice, lfill, exField, exIdxV, exIdxP, exBox, exAlloc, exLoad, exStore, exFieldA, exIdxA, exLen, exPick, exUn, exBeq, exMM, exSeq, seqGo, exExt, binV, intOp, subc, AV.solid, S0, encI, encB, c_caesuralaw12_VerdictLast, encBk]
  refine CallR.pure hl cl_nil (closed_B _) ?_
  simp [AW_seq, AW_reg, AW_regD, AW_block, AW_cond, AW_skip, AW_exit, AW_ret, AW_scp, condR_true, condR_false, AThen_normal, AThen_ret, AThen_exit, ABlock_normal, ABlock_ret, ABlock_exit, AScope_normal, AScope_ret, AScope_exit, RetK_ret, RetK_normal, retAV_one, retAV_two, retAV_three, retAV_nil, RG_nil, RG_op, RG_guard, gdR_tt, gdR_ff, gdR_tf, gdR_ft, gdR_un, RG_call, callQ_clo, contK_ap, opR_some, RD_nil, RD_op0, RD_op1, opD0_some, opD1_some, RD_call, callQD_clo, RD_guard, gdD_tt, gdD_ff, gdD_tf, gdD_ft, gdD_un, psh_nil, psh_cons, Apt_nil, Apt_nilT, Apt_true, Apt_false, Dis_def, runT_val, runT_rd, runT_wr, runT_new, runT_mv, ex, put_some, put_none, ev_t, ev_c, argF_zero, argF_succ, set_g, set_n, cells_v, cells_sl, cells_agg, cells_own, cells_ptr, cells_clo, cells_eptr, cells_mp, putc, exBslice, lfill, exField, exIdxV, exIdxP, exBox, exAlloc, exLoad, exStore, exFieldA, exIdxA, exLen, exPick, exUn, exBeq, exMM, exSeq, seqGo, exExt, binV, intOp, subc, AV.solid, S0, encI, encB, hv, ha, hu]
  refine CallR.pure hgn' (cl_cons cb2 (cl_cons (closed_I 300) cl_nil)) (closed_B _) ?_
  cases gn with
  | true =>
    simp [AW_seq, AW_reg, AW_regD, AW_block, AW_cond, AW_skip, AW_exit, AW_ret, AW_scp, condR_true, condR_false, AThen_normal, AThen_ret, AThen_exit, ABlock_normal, ABlock_ret, ABlock_exit, AScope_normal, AScope_ret, AScope_exit, RetK_ret, RetK_normal, retAV_one, retAV_two, retAV_three, retAV_nil, RG_nil, RG_op, RG_guard, gdR_tt, gdR_ff, gdR_tf, gdR_ft, gdR_un, RG_call, callQ_clo, contK_ap, opR_some, RD_nil, RD_op0, RD_op1, opD0_some, opD1_some, RD_call, callQD_clo, RD_guard, gdD_tt, gdD_ff, gdD_tf, gdD_ft, gdD_un, psh_nil, psh_cons, Apt_nil, Apt_nilT, Apt_true, Apt_false, Dis_def, runT_val, runT_rd, runT_wr, runT_new, runT_mv, ex, put_some, put_none, ev_t, ev_c, argF_zero, argF_succ, set_g, set_n, cells_v, cells_sl, cells_agg, cells_own, cells_ptr, cells_clo, cells_eptr, cells_mp, putc, exBslice, lfill, exField, exIdxV, exIdxP, exBox, exAlloc, exLoad, exStore, exFieldA, exIdxA, exLen, exPick, exUn, exBeq, exMM, exSeq, seqGo, exExt, binV, intOp, subc, AV.solid, S0, encI, encB]
    exact FzK_B true _
  | false =>
    by_cases h1 : (10 : Int) < l.length
    · have h1' : 10 < l.length := by omega
      simp [AW_seq, AW_reg, AW_regD, AW_block, AW_cond, AW_skip, AW_exit, AW_ret, AW_scp, condR_true, condR_false, AThen_normal, AThen_ret, AThen_exit, ABlock_normal, ABlock_ret, ABlock_exit, AScope_normal, AScope_ret, AScope_exit, RetK_ret, RetK_normal, retAV_one, retAV_two, retAV_three, retAV_nil, RG_nil, RG_op, RG_guard, gdR_tt, gdR_ff, gdR_tf, gdR_ft, gdR_un, RG_call, callQ_clo, contK_ap, opR_some, RD_nil, RD_op0, RD_op1, opD0_some, opD1_some, RD_call, callQD_clo, RD_guard, gdD_tt, gdD_ff, gdD_tf, gdD_ft, gdD_un, psh_nil, psh_cons, Apt_nil, Apt_nilT, Apt_true, Apt_false, Dis_def, runT_val, runT_rd, runT_wr, runT_new, runT_mv, ex, put_some, put_none, ev_t, ev_c, argF_zero, argF_succ, set_g, set_n, cells_v, cells_sl, cells_agg, cells_own, cells_ptr, cells_clo, cells_eptr, cells_mp, putc, exBslice, lfill, exField, exIdxV, exIdxP, exBox, exAlloc, exLoad, exStore, exFieldA, exIdxA, exLen, exPick, exUn, exBeq, exMM, exSeq, seqGo, exExt, binV, intOp, subc, AV.solid, S0, encI, encB, encIs, h1, h1']
      exact FzK_B true _
    · have h1' : ¬ 10 < l.length := by omega
      by_cases h2 : (5 : Int) < x.rules.length
      · have h2' : 5 < x.rules.length := by omega
        simp [AW_seq, AW_reg, AW_regD, AW_block, AW_cond, AW_skip, AW_exit, AW_ret, AW_scp, condR_true, condR_false, AThen_normal, AThen_ret, AThen_exit, ABlock_normal, ABlock_ret, ABlock_exit, AScope_normal, AScope_ret, AScope_exit, RetK_ret, RetK_normal, retAV_one, retAV_two, retAV_three, retAV_nil, RG_nil, RG_op, RG_guard, gdR_tt, gdR_ff, gdR_tf, gdR_ft, gdR_un, RG_call, callQ_clo, contK_ap, opR_some, RD_nil, RD_op0, RD_op1, opD0_some, opD1_some, RD_call, callQD_clo, RD_guard, gdD_tt, gdD_ff, gdD_tf, gdD_ft, gdD_un, psh_nil, psh_cons, Apt_nil, Apt_nilT, Apt_true, Apt_false, Dis_def, runT_val, runT_rd, runT_wr, runT_new, runT_mv, ex, put_some, put_none, ev_t, ev_c, argF_zero, argF_succ, set_g, set_n, cells_v, cells_sl, cells_agg, cells_own, cells_ptr, cells_clo, cells_eptr, cells_mp, putc, exBslice, lfill, exField, exIdxV, exIdxP, exBox, exAlloc, exLoad, exStore, exFieldA, exIdxA, exLen, exPick, exUn, exBeq, exMM, exSeq, seqGo, exExt, binV, intOp, subc, AV.solid, S0, encI, encB, encIs, h1, h1', h2, h2', hv, ha, hu]
        exact FzK_B true _
      · have h2' : ¬ 5 < x.rules.length := by omega
        have hd := H rfl (by omega) (by omega)
        have hb0 : exBslice 11 0 (.agg [.v (.int .i64 0), .v (.bool false), .v (.int .i64 0), .sl true [], .sl true [], .sl true [], .v (.int .i64 0), .sl true [], .sl true [], .sl true [], .v (.int .i64 0)]) [] = some (.sl true []) := exBslice_nil _ _
        have cl : ∀ y ∈ x.rules.map encRul, y.cells.length = 11 := fun y hy => by obtain ⟨r, _, rfl⟩ := List.mem_map.mp hy; exact Rul_len r
        by_cases h0 : x.rules = []
        · have ap := fun S nid => app_T0 (es := 11) (by_ := 184) S nid (by unfold appOk; omega)
          have ap2 : ∀ z : AV, z.cells.length = 11 → ∀ S nid, (exApp 11 184 (.sl true []) (.sl true [z])).run S nid = _ := fun z hz S nid => app_R0 (S := S) (nid := nid) hz (by unfold appOk; omega)
          simp [AW_seq, AW_reg, AW_regD, AW_block, AW_cond, AW_skip, AW_exit, AW_ret, AW_scp, condR_true, condR_false, AThen_normal, AThen_ret, AThen_exit, ABlock_normal, ABlock_ret, ABlock_exit, AScope_normal, AScope_ret, AScope_exit, RetK_ret, RetK_normal, retAV_one, retAV_two, retAV_three, retAV_nil, RG_nil, RG_op, RG_guard, gdR_tt, gdR_ff, gdR_tf, gdR_ft, gdR_un, RG_call, callQ_clo, contK_ap, opR_some, RD_nil, RD_op0, RD_op1, opD0_some, opD1_some, RD_call, callQD_clo, RD_guard, gdD_tt, gdD_ff, gdD_tf, gdD_ft, gdD_un, psh_nil, psh_cons, Apt_nil, Apt_nilT, Apt_true, Apt_false, Dis_def, runT_val, runT_rd, runT_wr, runT_new, runT_mv, ex, put_some, put_none, ev_t, ev_c, argF_zero, argF_succ, set_g, set_n, cells_v, cells_sl, cells_agg, cells_own, cells_ptr, cells_clo, cells_eptr, cells_mp, putc, exBslice, lfill, exField, exIdxV, exIdxP, exBox, exAlloc, exLoad, exStore, exFieldA, exIdxA, exLen, exPick, exUn, exBeq, exMM, exSeq, seqGo, exExt, binV, intOp, subc, AV.solid, S0, encI, encB, encIs, h1, h1', h2, h2', hv, ha, hu, hb0, exBuild, afill, h0, ap]
          rw [ap2 _ rfl]
          simp [AW_seq, AW_reg, AW_regD, AW_block, AW_cond, AW_skip, AW_exit, AW_ret, AW_scp, condR_true, condR_false, AThen_normal, AThen_ret, AThen_exit, ABlock_normal, ABlock_ret, ABlock_exit, AScope_normal, AScope_ret, AScope_exit, RetK_ret, RetK_normal, retAV_one, retAV_two, retAV_three, retAV_nil, RG_nil, RG_op, RG_guard, gdR_tt, gdR_ff, gdR_tf, gdR_ft, gdR_un, RG_call, callQ_clo, contK_ap, opR_some, RD_nil, RD_op0, RD_op1, opD0_some, opD1_some, RD_call, callQD_clo, RD_guard, gdD_tt, gdD_ff, gdD_tf, gdD_ft, gdD_un, psh_nil, psh_cons, Apt_nil, Apt_nilT, Apt_true, Apt_false, Dis_def, runT_val, runT_rd, runT_wr, runT_new, runT_mv, ex, put_some, put_none, ev_t, ev_c, argF_zero, argF_succ, set_g, set_n, cells_v, cells_sl, cells_agg, cells_own, cells_ptr, cells_clo, cells_eptr, cells_mp, putc, exBslice, lfill, exField, exIdxV, exIdxP, exBox, exAlloc, exLoad, exStore, exFieldA, exIdxA, exLen, exPick, exUn, exBeq, exMM, exSeq, seqGo, exExt, binV, intOp, subc, AV.solid, S0, encI, encB, h0, hv, ha, hu]
          refine vl_loop (x := x) (c := c) (b8 := 21) (rid := 32) ok (by omega) (by omega) (fun y hy i => hd y hy i) ⟨⟨?_, ?_, ?_, ?_, ?_, ?_, ?_⟩, ?_⟩ (fun f S hs => ?_)
          · simp [put_some, argF_zero, argF_succ, encIs]
          · simp [put_some, argF_zero, argF_succ, encB]
          · simp [put_some]
          · simp [put_some]
          · simp [set_g, encBk, h0]
          · simp [set_g, lastA, h0]
          · simp [set_g, newA, encI, encB, h0]
          · simp [put_some, encI]
          · exact vl_end ok hd hs
        · have ap1 : ∀ z : AV, z.cells.length = 11 → ∀ (S : St) (nid : Nat), S.g 26 = some (.arr 11 (x.rules.map encRul)) → (exApp 11 184 (.own 26 0 x.rules.length) (.sl true [z])).run S nid = some (.own nid 0 (x.rules.length + 1), (S.set 26 none).set nid (some (.arr 11 (x.rules.map encRul ++ [z])))) := fun z hz S nid hg => by
            have := app_R1 (by_ := 184) (nid := nid) hg hz (by unfold appOk; simp; omega)
            simpa using this
          have ap := fun S nid => app_T1 (es := 11) (by_ := 184) (xs := x.rules.map encRul) S nid cl (by unfold appOk; simp; omega) (by simpa using h0)
          simp [AW_seq, AW_reg, AW_regD, AW_block, AW_cond, AW_skip, AW_exit, AW_ret, AW_scp, condR_true, condR_false, AThen_normal, AThen_ret, AThen_exit, ABlock_normal, ABlock_ret, ABlock_exit, AScope_normal, AScope_ret, AScope_exit, RetK_ret, RetK_normal, retAV_one, retAV_two, retAV_three, retAV_nil, RG_nil, RG_op, RG_guard, gdR_tt, gdR_ff, gdR_tf, gdR_ft, gdR_un, RG_call, callQ_clo, contK_ap, opR_some, RD_nil, RD_op0, RD_op1, opD0_some, opD1_some, RD_call, callQD_clo, RD_guard, gdD_tt, gdD_ff, gdD_tf, gdD_ft, gdD_un, psh_nil, psh_cons, Apt_nil, Apt_nilT, Apt_true, Apt_false, Dis_def, runT_val, runT_rd, runT_wr, runT_new, runT_mv, ex, put_some, put_none, ev_t, ev_c, argF_zero, argF_succ, set_g, set_n, cells_v, cells_sl, cells_agg, cells_own, cells_ptr, cells_clo, cells_eptr, cells_mp, putc, exBslice, lfill, exField, exIdxV, exIdxP, exBox, exAlloc, exLoad, exStore, exFieldA, exIdxA, exLen, exPick, exUn, exBeq, exMM, exSeq, seqGo, exExt, binV, intOp, subc, AV.solid, S0, encI, encB, encIs, h1, h1', h2, h2', hv, ha, hu, hb0, exBuild, afill, h0, ap]
          rw [ap1 _ rfl _ _ (by simp [set_g])]
          simp [AW_seq, AW_reg, AW_regD, AW_block, AW_cond, AW_skip, AW_exit, AW_ret, AW_scp, condR_true, condR_false, AThen_normal, AThen_ret, AThen_exit, ABlock_normal, ABlock_ret, ABlock_exit, AScope_normal, AScope_ret, AScope_exit, RetK_ret, RetK_normal, retAV_one, retAV_two, retAV_three, retAV_nil, RG_nil, RG_op, RG_guard, gdR_tt, gdR_ff, gdR_tf, gdR_ft, gdR_un, RG_call, callQ_clo, contK_ap, opR_some, RD_nil, RD_op0, RD_op1, opD0_some, opD1_some, RD_call, callQD_clo, RD_guard, gdD_tt, gdD_ff, gdD_tf, gdD_ft, gdD_un, psh_nil, psh_cons, Apt_nil, Apt_nilT, Apt_true, Apt_false, Dis_def, runT_val, runT_rd, runT_wr, runT_new, runT_mv, ex, put_some, put_none, ev_t, ev_c, argF_zero, argF_succ, set_g, set_n, cells_v, cells_sl, cells_agg, cells_own, cells_ptr, cells_clo, cells_eptr, cells_mp, putc, exBslice, lfill, exField, exIdxV, exIdxP, exBox, exAlloc, exLoad, exStore, exFieldA, exIdxA, exLen, exPick, exUn, exBeq, exMM, exSeq, seqGo, exExt, binV, intOp, subc, AV.solid, S0, encI, encB, h0, hv, ha, hu]
          refine vl_loop (x := x) (c := c) (b8 := 21) (rid := 32) ok (by omega) (by omega) (fun y hy i => hd y hy i) ⟨⟨?_, ?_, ?_, ?_, ?_, ?_, ?_⟩, ?_⟩ (fun f S hs => ?_)
          · simp [put_some, argF_zero, argF_succ, encIs]
          · simp [put_some, argF_zero, argF_succ, encB]
          · simp [put_some]
          · simp [put_some]
          · simp [set_g, encBk, h0]
          · simp [set_g, lastA, h0]
          · simp [set_g, newA, encI, encB, h0]
          · simp [put_some, encI]
          · exact vl_end ok hd hs
end Go.Rf


/- Own work: a book without rules is the same as itself. -/
set_option linter.unusedVariables false
set_option linter.unusedSimpArgs false
namespace Go.Rf
open Go.RowKit

def c_caesuraref08_Same (f_caesuraref01_Ranges f_caesuraref01_Ints f_caesuraref08_Same : FuncId) : AC :=
  (.seq (.reg none [
   ⟨(some 2), .box 4 (.t 0), none, none⟩,
   ⟨(some 3), .box 4 (.t 1), none, none⟩,
   ⟨(some 4), .mv (.c (.v (.bool false))), none, none⟩])
  (.seq (.seq (.reg none [
   ⟨(some 6), .fieldA 0 (.t 2), none, none⟩,
   ⟨(some 7), .load none (.t 6), none, none⟩,
   ⟨(some 8), .fieldA 0 (.t 3), none, none⟩,
   ⟨(some 9), .load none (.t 8), none, none⟩,
   ⟨(some 10), .bin .neq (.t 7) (.t 9), none, none⟩,
   ⟨(some 11), .mv (.t 10), none, none⟩,
   ⟨(some 12), .fieldA 1 (.t 2), (some (11, false)), none⟩,
   ⟨(some 13), .load none (.t 12), (some (11, false)), none⟩,
   ⟨(some 14), .fieldA 1 (.t 3), (some (11, false)), none⟩,
   ⟨(some 15), .load none (.t 14), (some (11, false)), none⟩,
   ⟨(some 16), .mv (.c .junk), (some (11, false)), (some ((.c (.clo f_caesuraref01_Ranges [] [])), [(.t 13), (.t 15)]))⟩,
   ⟨(some 17), .un .not (.t 16), (some (11, false)), none⟩,
   ⟨(some 18), .pick (.t 11) (.c (.v (.bool true))) (.t 17), none, none⟩,
   ⟨(some 19), .mv (.t 18), none, none⟩,
   ⟨(some 20), .fieldA 2 (.t 2), (some (19, false)), none⟩,
   ⟨(some 21), .load none (.t 20), (some (19, false)), none⟩,
   ⟨(some 22), .fieldA 2 (.t 3), (some (19, false)), none⟩,
   ⟨(some 23), .load none (.t 22), (some (19, false)), none⟩,
   ⟨(some 24), .mv (.c .junk), (some (19, false)), (some ((.c (.clo f_caesuraref01_Ints [] [])), [(.t 21), (.t 23)]))⟩,
   ⟨(some 25), .un .not (.t 24), (some (19, false)), none⟩,
   ⟨(some 26), .pick (.t 19) (.c (.v (.bool true))) (.t 25), none, none⟩,
   ⟨(some 27), .mv (.t 26), none, none⟩,
   ⟨(some 28), .fieldA 3 (.t 2), (some (27, false)), none⟩,
   ⟨(some 29), .load none (.t 28), (some (27, false)), none⟩,
   ⟨(some 30), .len (.t 29), (some (27, false)), none⟩,
   ⟨(some 31), .fieldA 3 (.t 3), (some (27, false)), none⟩,
   ⟨(some 32), .load none (.t 31), (some (27, false)), none⟩,
   ⟨(some 33), .len (.t 32), (some (27, false)), none⟩,
   ⟨(some 34), .bin .neq (.t 30) (.t 33), (some (27, false)), none⟩,
   ⟨(some 35), .pick (.t 27) (.c (.v (.bool true))) (.t 34), none, none⟩])
  (.cond (.t 35) (.seq (.reg none [
    ⟨(some 4), .mv (.c (.v (.bool false))), none, none⟩])
   .ret) .skip))
  (.seq (.seq (.reg none [
   ⟨(some 5), .mv (.c (.v (.int .i64 0))), none, none⟩])
  (.block 0 (.loop (.seq (.seq (.reg none [
     ⟨(some 36), .mv (.t 5), none, none⟩,
     ⟨(some 37), .fieldA 3 (.t 2), none, none⟩,
     ⟨(some 38), .load none (.t 37), none, none⟩,
     ⟨(some 39), .len (.t 38), none, none⟩,
     ⟨(some 40), .bin .lss (.t 36) (.t 39), none, none⟩])
    (.cond (.t 40) .skip (.exit 0)))
    (.seq (.block 1 (.seq (.reg (some []) [
      ⟨(some 43), .fieldA 3 (.t 2), none, none⟩,
      ⟨(some 44), .load none (.t 43), none, none⟩,
      ⟨(some 45), .mv (.t 5), none, none⟩,
      ⟨(some 46), .idxA 4 (.t 44) (.t 45), none, none⟩,
      ⟨(some 47), .load (some 4) (.t 46), none, none⟩,
      ⟨(some 48), .fieldA 3 (.t 3), none, none⟩,
      ⟨(some 49), .load none (.t 48), none, none⟩,
      ⟨(some 50), .mv (.t 5), none, none⟩,
      ⟨(some 51), .idxA 4 (.t 49) (.t 50), none, none⟩,
      ⟨(some 52), .load (some 4) (.t 51), none, none⟩,
      ⟨(some 53), .mv (.c .junk), none, (some ((.c (.clo f_caesuraref08_Same [] [])), [(.t 47), (.t 52)]))⟩,
      ⟨(some 54), .un .not (.t 53), none, none⟩])
     (.cond (.t 54) (.seq (.reg none [
       ⟨(some 4), .mv (.c (.v (.bool false))), none, none⟩])
      .ret) .skip)))
    (.reg none [
     ⟨(some 41), .mv (.t 5), none, none⟩,
     ⟨(some 42), .bin .add (.t 41) (.c (.v (.int .i64 1))), none, none⟩,
     ⟨(some 5), .mv (.t 42), none, none⟩]))))))
  (.seq (.reg none [
   ⟨(some 4), .mv (.c (.v (.bool true))), none, none⟩])
  .ret))))
def c_caesuraref06_Same (f_caesuraref06_Same : FuncId) : AC :=
  (.seq (.reg none [
   ⟨(some 2), .box 5 (.t 0), none, none⟩,
   ⟨(some 3), .box 5 (.t 1), none, none⟩,
   ⟨(some 4), .mv (.c (.v (.bool false))), none, none⟩])
  (.seq (.seq (.reg none [
   ⟨(some 6), .fieldA 0 (.t 2), none, none⟩,
   ⟨(some 7), .load none (.t 6), none, none⟩,
   ⟨(some 8), .fieldA 0 (.t 3), none, none⟩,
   ⟨(some 9), .load none (.t 8), none, none⟩,
   ⟨(some 10), .bin .neq (.t 7) (.t 9), none, none⟩,
   ⟨(some 11), .mv (.t 10), none, none⟩,
   ⟨(some 12), .fieldA 1 (.t 2), (some (11, false)), none⟩,
   ⟨(some 13), .load none (.t 12), (some (11, false)), none⟩,
   ⟨(some 14), .fieldA 1 (.t 3), (some (11, false)), none⟩,
   ⟨(some 15), .load none (.t 14), (some (11, false)), none⟩,
   ⟨(some 16), .bin .neq (.t 13) (.t 15), (some (11, false)), none⟩,
   ⟨(some 17), .pick (.t 11) (.c (.v (.bool true))) (.t 16), none, none⟩,
   ⟨(some 18), .mv (.t 17), none, none⟩,
   ⟨(some 19), .fieldA 2 (.t 2), (some (18, false)), none⟩,
   ⟨(some 20), .load none (.t 19), (some (18, false)), none⟩,
   ⟨(some 21), .fieldA 2 (.t 3), (some (18, false)), none⟩,
   ⟨(some 22), .load none (.t 21), (some (18, false)), none⟩,
   ⟨(some 23), .bin .neq (.t 20) (.t 22), (some (18, false)), none⟩,
   ⟨(some 24), .pick (.t 18) (.c (.v (.bool true))) (.t 23), none, none⟩,
   ⟨(some 25), .mv (.t 24), none, none⟩,
   ⟨(some 26), .fieldA 3 (.t 2), (some (25, false)), none⟩,
   ⟨(some 27), .load none (.t 26), (some (25, false)), none⟩,
   ⟨(some 28), .fieldA 3 (.t 3), (some (25, false)), none⟩,
   ⟨(some 29), .load none (.t 28), (some (25, false)), none⟩,
   ⟨(some 30), .bin .neq (.t 27) (.t 29), (some (25, false)), none⟩,
   ⟨(some 31), .pick (.t 25) (.c (.v (.bool true))) (.t 30), none, none⟩,
   ⟨(some 32), .mv (.t 31), none, none⟩,
   ⟨(some 33), .fieldA 4 (.t 2), (some (32, false)), none⟩,
   ⟨(some 34), .load none (.t 33), (some (32, false)), none⟩,
   ⟨(some 35), .len (.t 34), (some (32, false)), none⟩,
   ⟨(some 36), .fieldA 4 (.t 3), (some (32, false)), none⟩,
   ⟨(some 37), .load none (.t 36), (some (32, false)), none⟩,
   ⟨(some 38), .len (.t 37), (some (32, false)), none⟩,
   ⟨(some 39), .bin .neq (.t 35) (.t 38), (some (32, false)), none⟩,
   ⟨(some 40), .pick (.t 32) (.c (.v (.bool true))) (.t 39), none, none⟩])
  (.cond (.t 40) (.seq (.reg none [
    ⟨(some 4), .mv (.c (.v (.bool false))), none, none⟩])
   .ret) .skip))
  (.seq (.seq (.reg none [
   ⟨(some 5), .mv (.c (.v (.int .i64 0))), none, none⟩])
  (.block 0 (.loop (.seq (.seq (.reg none [
     ⟨(some 41), .mv (.t 5), none, none⟩,
     ⟨(some 42), .fieldA 4 (.t 2), none, none⟩,
     ⟨(some 43), .load none (.t 42), none, none⟩,
     ⟨(some 44), .len (.t 43), none, none⟩,
     ⟨(some 45), .bin .lss (.t 41) (.t 44), none, none⟩])
    (.cond (.t 45) .skip (.exit 0)))
    (.seq (.block 1 (.seq (.reg (some []) [
      ⟨(some 48), .fieldA 4 (.t 2), none, none⟩,
      ⟨(some 49), .load none (.t 48), none, none⟩,
      ⟨(some 50), .mv (.t 5), none, none⟩,
      ⟨(some 51), .idxA 5 (.t 49) (.t 50), none, none⟩,
      ⟨(some 52), .load (some 5) (.t 51), none, none⟩,
      ⟨(some 53), .fieldA 4 (.t 3), none, none⟩,
      ⟨(some 54), .load none (.t 53), none, none⟩,
      ⟨(some 55), .mv (.t 5), none, none⟩,
      ⟨(some 56), .idxA 5 (.t 54) (.t 55), none, none⟩,
      ⟨(some 57), .load (some 5) (.t 56), none, none⟩,
      ⟨(some 58), .mv (.c .junk), none, (some ((.c (.clo f_caesuraref06_Same [] [])), [(.t 52), (.t 57)]))⟩,
      ⟨(some 59), .un .not (.t 58), none, none⟩])
     (.cond (.t 59) (.seq (.reg none [
       ⟨(some 4), .mv (.c (.v (.bool false))), none, none⟩])
      .ret) .skip)))
    (.reg none [
     ⟨(some 46), .mv (.t 5), none, none⟩,
     ⟨(some 47), .bin .add (.t 46) (.c (.v (.int .i64 1))), none, none⟩,
     ⟨(some 5), .mv (.t 47), none, none⟩]))))))
  (.seq (.reg none [
   ⟨(some 4), .mv (.c (.v (.bool true))), none, none⟩])
  .ret))))
def c_caesuraref06_Items (f_caesuraref06_Same : FuncId) : AC :=
  (.seq (.reg none [
   ⟨(some 4), .mv (.c (.v (.bool false))), none, none⟩])
  (.seq (.seq (.reg none [
   ⟨(some 8), .mv (.t 0), none, none⟩,
   ⟨(some 9), .len (.t 8), none, none⟩,
   ⟨(some 10), .mv (.t 1), none, none⟩,
   ⟨(some 11), .len (.t 10), none, none⟩,
   ⟨(some 12), .bin .neq (.t 9) (.t 11), none, none⟩])
  (.cond (.t 12) (.seq (.reg none [
    ⟨(some 4), .mv (.c (.v (.bool false))), none, none⟩])
   .ret) .skip))
  (.seq (.seq (.reg none [
   ⟨(some 5), .mv (.c (.v (.int .i64 0))), none, none⟩])
  (.block 0 (.loop (.seq (.seq (.reg none [
     ⟨(some 13), .mv (.t 5), none, none⟩,
     ⟨(some 14), .mv (.t 0), none, none⟩,
     ⟨(some 15), .len (.t 14), none, none⟩,
     ⟨(some 16), .bin .lss (.t 13) (.t 15), none, none⟩])
    (.cond (.t 16) .skip (.exit 0)))
    (.seq (.block 1 (.seq (.reg (some [[], [], [], [], [], [], [], [], [true, true, true, true, true, true, true, true], [true, true, true, true, true, true, true, true, true], [false, false, true, true, true, true]]) [
      ⟨(some 19), .mv (.t 0), none, none⟩,
      ⟨(some 20), .mv (.t 5), none, none⟩,
      ⟨(some 21), .idxA 15 (.t 19) (.t 20), none, none⟩,
      ⟨(some 22), .load (some 15) (.t 21), none, none⟩,
      ⟨(some 23), .mv (.t 1), none, none⟩,
      ⟨(some 24), .mv (.t 5), none, none⟩,
      ⟨(some 25), .idxA 15 (.t 23) (.t 24), none, none⟩,
      ⟨(some 26), .load (some 15) (.t 25), none, none⟩,
      ⟨(some 6), .alloc (.agg [(.v (.int .i64 0)), (.v (.string ⟨#[]⟩)), (.v (.int .i64 0)), (.v (.bool false)), (.v (.int .i64 0)), (.v (.string ⟨#[]⟩)), (.v (.int .i64 0)), (.v (.int .i64 0)), (.sl true []), (.v (.int .i64 0)), (.v (.string ⟨#[]⟩)), (.v (.int .i64 0)), (.v (.int .i64 0)), (.sl true []), (.v (.int .i64 0))]) 15, none, none⟩,
      ⟨(some 7), .alloc (.agg [(.v (.int .i64 0)), (.v (.string ⟨#[]⟩)), (.v (.int .i64 0)), (.v (.bool false)), (.v (.int .i64 0)), (.v (.string ⟨#[]⟩)), (.v (.int .i64 0)), (.v (.int .i64 0)), (.sl true []), (.v (.int .i64 0)), (.v (.string ⟨#[]⟩)), (.v (.int .i64 0)), (.v (.int .i64 0)), (.sl true []), (.v (.int .i64 0))]) 15, none, none⟩,
      ⟨none, .store 15 (.t 6) (.t 22), none, none⟩,
      ⟨none, .store 15 (.t 7) (.t 26), none, none⟩])
     (.seq (.reg none [
      ⟨(some 27), .fieldA 0 (.t 6), none, none⟩,
      ⟨(some 28), .load none (.t 27), none, none⟩,
      ⟨(some 29), .fieldA 0 (.t 7), none, none⟩,
      ⟨(some 30), .load none (.t 29), none, none⟩,
      ⟨(some 31), .bin .neq (.t 28) (.t 30), none, none⟩,
      ⟨(some 32), .mv (.t 31), none, none⟩,
      ⟨(some 33), .fieldA 1 (.t 6), (some (32, false)), none⟩,
      ⟨(some 34), .load none (.t 33), (some (32, false)), none⟩,
      ⟨(some 35), .fieldA 1 (.t 7), (some (32, false)), none⟩,
      ⟨(some 36), .load none (.t 35), (some (32, false)), none⟩,
      ⟨(some 37), .bin .neq (.t 34) (.t 36), (some (32, false)), none⟩,
      ⟨(some 38), .pick (.t 32) (.c (.v (.bool true))) (.t 37), none, none⟩,
      ⟨(some 39), .mv (.t 38), none, none⟩,
      ⟨(some 40), .fieldA 2 (.t 6), (some (39, false)), none⟩,
      ⟨(some 41), .load none (.t 40), (some (39, false)), none⟩,
      ⟨(some 42), .fieldA 2 (.t 7), (some (39, false)), none⟩,
      ⟨(some 43), .load none (.t 42), (some (39, false)), none⟩,
      ⟨(some 44), .bin .neq (.t 41) (.t 43), (some (39, false)), none⟩,
      ⟨(some 45), .pick (.t 39) (.c (.v (.bool true))) (.t 44), none, none⟩,
      ⟨(some 46), .mv (.t 45), none, none⟩,
      ⟨(some 47), .fieldA 3 (.t 6), (some (46, false)), none⟩,
      ⟨(some 48), .load none (.t 47), (some (46, false)), none⟩,
      ⟨(some 49), .fieldA 3 (.t 7), (some (46, false)), none⟩,
      ⟨(some 50), .load none (.t 49), (some (46, false)), none⟩,
      ⟨(some 51), .beq true (.t 48) (.t 50), (some (46, false)), none⟩,
      ⟨(some 52), .pick (.t 46) (.c (.v (.bool true))) (.t 51), none, none⟩,
      ⟨(some 53), .mv (.t 52), none, none⟩,
      ⟨(some 54), .fieldA 4 (.t 6), (some (53, false)), none⟩,
      ⟨(some 55), .load (some 5) (.t 54), (some (53, false)), none⟩,
      ⟨(some 56), .fieldA 4 (.t 7), (some (53, false)), none⟩,
      ⟨(some 57), .load (some 5) (.t 56), (some (53, false)), none⟩,
      ⟨(some 58), .mv (.c .junk), (some (53, false)), (some ((.c (.clo f_caesuraref06_Same [] [])), [(.t 55), (.t 57)]))⟩,
      ⟨(some 59), .un .not (.t 58), (some (53, false)), none⟩,
      ⟨(some 60), .pick (.t 53) (.c (.v (.bool true))) (.t 59), none, none⟩,
      ⟨(some 61), .mv (.t 60), none, none⟩,
      ⟨(some 62), .fieldA 9 (.t 6), (some (61, false)), none⟩,
      ⟨(some 63), .load (some 5) (.t 62), (some (61, false)), none⟩,
      ⟨(some 64), .fieldA 9 (.t 7), (some (61, false)), none⟩,
      ⟨(some 65), .load (some 5) (.t 64), (some (61, false)), none⟩,
      ⟨(some 66), .mv (.c .junk), (some (61, false)), (some ((.c (.clo f_caesuraref06_Same [] [])), [(.t 63), (.t 65)]))⟩,
      ⟨(some 67), .un .not (.t 66), (some (61, false)), none⟩,
      ⟨(some 68), .pick (.t 61) (.c (.v (.bool true))) (.t 67), none, none⟩])
     (.cond (.t 68) (.seq (.reg none [
       ⟨(some 4), .mv (.c (.v (.bool false))), none, none⟩])
      .ret) .skip))))
    (.reg none [
     ⟨(some 17), .mv (.t 5), none, none⟩,
     ⟨(some 18), .bin .add (.t 17) (.c (.v (.int .i64 1))), none, none⟩,
     ⟨(some 5), .mv (.t 18), none, none⟩]))))))
  (.seq (.reg none [
   ⟨(some 4), .mv (.c (.v (.bool true))), none, none⟩])
  .ret))))
def c_s9a (f_caesuraref08_Same : FuncId) : AC :=
  (.block 0 (.loop (.seq (.seq (.reg none [
     ⟨(some 43), .mv (.t 5), none, none⟩,
     ⟨(some 44), .fieldA 0 (.t 2), none, none⟩,
     ⟨(some 45), .load none (.t 44), none, none⟩,
     ⟨(some 46), .len (.t 45), none, none⟩,
     ⟨(some 47), .bin .lss (.t 43) (.t 46), none, none⟩])
    (.cond (.t 47) .skip (.exit 0)))
    (.seq (.block 1 (.seq (.reg (some []) [
      ⟨(some 50), .fieldA 0 (.t 2), none, none⟩,
      ⟨(some 51), .load none (.t 50), none, none⟩,
      ⟨(some 52), .mv (.t 5), none, none⟩,
      ⟨(some 53), .idxA 7 (.t 51) (.t 52), none, none⟩,
      ⟨(some 54), .fieldA 0 (.t 53), none, none⟩,
      ⟨(some 55), .load none (.t 54), none, none⟩,
      ⟨(some 56), .fieldA 0 (.t 3), none, none⟩,
      ⟨(some 57), .load none (.t 56), none, none⟩,
      ⟨(some 58), .mv (.t 5), none, none⟩,
      ⟨(some 59), .idxA 7 (.t 57) (.t 58), none, none⟩,
      ⟨(some 60), .fieldA 0 (.t 59), none, none⟩,
      ⟨(some 61), .load none (.t 60), none, none⟩,
      ⟨(some 62), .bin .neq (.t 55) (.t 61), none, none⟩,
      ⟨(some 63), .mv (.t 62), none, none⟩,
      ⟨(some 64), .fieldA 0 (.t 2), (some (63, false)), none⟩,
      ⟨(some 65), .load none (.t 64), (some (63, false)), none⟩,
      ⟨(some 66), .mv (.t 5), (some (63, false)), none⟩,
      ⟨(some 67), .idxA 7 (.t 65) (.t 66), (some (63, false)), none⟩,
      ⟨(some 68), .fieldA 5 (.t 67), (some (63, false)), none⟩,
      ⟨(some 69), .load none (.t 68), (some (63, false)), none⟩,
      ⟨(some 70), .fieldA 0 (.t 3), (some (63, false)), none⟩,
      ⟨(some 71), .load none (.t 70), (some (63, false)), none⟩,
      ⟨(some 72), .mv (.t 5), (some (63, false)), none⟩,
      ⟨(some 73), .idxA 7 (.t 71) (.t 72), (some (63, false)), none⟩,
      ⟨(some 74), .fieldA 5 (.t 73), (some (63, false)), none⟩,
      ⟨(some 75), .load none (.t 74), (some (63, false)), none⟩,
      ⟨(some 76), .beq true (.t 69) (.t 75), (some (63, false)), none⟩,
      ⟨(some 77), .pick (.t 63) (.c (.v (.bool true))) (.t 76), none, none⟩,
      ⟨(some 78), .mv (.t 77), none, none⟩,
      ⟨(some 79), .fieldA 0 (.t 2), (some (78, false)), none⟩,
      ⟨(some 80), .load none (.t 79), (some (78, false)), none⟩,
      ⟨(some 81), .mv (.t 5), (some (78, false)), none⟩,
      ⟨(some 82), .idxA 7 (.t 80) (.t 81), (some (78, false)), none⟩,
      ⟨(some 83), .fieldA 1 (.t 82), (some (78, false)), none⟩,
      ⟨(some 84), .load (some 4) (.t 83), (some (78, false)), none⟩,
      ⟨(some 85), .fieldA 0 (.t 3), (some (78, false)), none⟩,
      ⟨(some 86), .load none (.t 85), (some (78, false)), none⟩,
      ⟨(some 87), .mv (.t 5), (some (78, false)), none⟩,
      ⟨(some 88), .idxA 7 (.t 86) (.t 87), (some (78, false)), none⟩,
      ⟨(some 89), .fieldA 1 (.t 88), (some (78, false)), none⟩,
      ⟨(some 90), .load (some 4) (.t 89), (some (78, false)), none⟩,
      ⟨(some 91), .mv (.c .junk), (some (78, false)), (some ((.c (.clo f_caesuraref08_Same [] [])), [(.t 84), (.t 90)]))⟩,
      ⟨(some 92), .un .not (.t 91), (some (78, false)), none⟩,
      ⟨(some 93), .pick (.t 78) (.c (.v (.bool true))) (.t 92), none, none⟩])
     (.cond (.t 93) (.seq (.reg none [
       ⟨(some 4), .mv (.c (.v (.bool false))), none, none⟩])
      .ret) .skip)))
    (.reg none [
     ⟨(some 48), .mv (.t 5), none, none⟩,
     ⟨(some 49), .bin .add (.t 48) (.c (.v (.int .i64 1))), none, none⟩,
     ⟨(some 5), .mv (.t 49), none, none⟩])))))
def c_s9b (f_caesuraref08_Same : FuncId) : AC :=
  (.block 2 (.loop (.seq (.seq (.reg none [
     ⟨(some 94), .mv (.t 6), none, none⟩,
     ⟨(some 95), .fieldA 1 (.t 2), none, none⟩,
     ⟨(some 96), .load none (.t 95), none, none⟩,
     ⟨(some 97), .len (.t 96), none, none⟩,
     ⟨(some 98), .bin .lss (.t 94) (.t 97), none, none⟩])
    (.cond (.t 98) .skip (.exit 2)))
    (.seq (.block 3 (.seq (.reg (some [[], [], [], [], [], [], [], [], [], [], [true, true, true, true, true, true, true, true, true, true], [true, true, true, true, true, true, true, true, true, true, true], [false, false, true, true, true, true, true]]) [
      ⟨(some 101), .fieldA 1 (.t 2), none, none⟩,
      ⟨(some 102), .load none (.t 101), none, none⟩,
      ⟨(some 103), .mv (.t 6), none, none⟩,
      ⟨(some 104), .idxA 11 (.t 102) (.t 103), none, none⟩,
      ⟨(some 105), .load (some 11) (.t 104), none, none⟩,
      ⟨(some 106), .fieldA 1 (.t 3), none, none⟩,
      ⟨(some 107), .load none (.t 106), none, none⟩,
      ⟨(some 108), .mv (.t 6), none, none⟩,
      ⟨(some 109), .idxA 11 (.t 107) (.t 108), none, none⟩,
      ⟨(some 110), .load (some 11) (.t 109), none, none⟩,
      ⟨(some 7), .alloc (.agg [(.v (.int .i64 0)), (.v (.bool false)), (.v (.int .i64 0)), (.sl true []), (.sl true []), (.sl true []), (.v (.int .i64 0)), (.sl true []), (.sl true []), (.sl true []), (.v (.int .i64 0))]) 11, none, none⟩,
      ⟨(some 8), .alloc (.agg [(.v (.int .i64 0)), (.v (.bool false)), (.v (.int .i64 0)), (.sl true []), (.sl true []), (.sl true []), (.v (.int .i64 0)), (.sl true []), (.sl true []), (.sl true []), (.v (.int .i64 0))]) 11, none, none⟩,
      ⟨none, .store 11 (.t 7) (.t 105), none, none⟩,
      ⟨none, .store 11 (.t 8) (.t 110), none, none⟩])
     (.seq (.reg none [
      ⟨(some 111), .fieldA 0 (.t 7), none, none⟩,
      ⟨(some 112), .load none (.t 111), none, none⟩,
      ⟨(some 113), .fieldA 0 (.t 8), none, none⟩,
      ⟨(some 114), .load none (.t 113), none, none⟩,
      ⟨(some 115), .bin .neq (.t 112) (.t 114), none, none⟩,
      ⟨(some 116), .mv (.t 115), none, none⟩,
      ⟨(some 117), .fieldA 1 (.t 7), (some (116, false)), none⟩,
      ⟨(some 118), .load none (.t 117), (some (116, false)), none⟩,
      ⟨(some 119), .fieldA 1 (.t 8), (some (116, false)), none⟩,
      ⟨(some 120), .load none (.t 119), (some (116, false)), none⟩,
      ⟨(some 121), .beq true (.t 118) (.t 120), (some (116, false)), none⟩,
      ⟨(some 122), .pick (.t 116) (.c (.v (.bool true))) (.t 121), none, none⟩,
      ⟨(some 123), .mv (.t 122), none, none⟩,
      ⟨(some 124), .fieldA 2 (.t 7), (some (123, false)), none⟩,
      ⟨(some 125), .load (some 4) (.t 124), (some (123, false)), none⟩,
      ⟨(some 126), .fieldA 2 (.t 8), (some (123, false)), none⟩,
      ⟨(some 127), .load (some 4) (.t 126), (some (123, false)), none⟩,
      ⟨(some 128), .mv (.c .junk), (some (123, false)), (some ((.c (.clo f_caesuraref08_Same [] [])), [(.t 125), (.t 127)]))⟩,
      ⟨(some 129), .un .not (.t 128), (some (123, false)), none⟩,
      ⟨(some 130), .pick (.t 123) (.c (.v (.bool true))) (.t 129), none, none⟩,
      ⟨(some 131), .mv (.t 130), none, none⟩,
      ⟨(some 132), .fieldA 6 (.t 7), (some (131, false)), none⟩,
      ⟨(some 133), .load (some 4) (.t 132), (some (131, false)), none⟩,
      ⟨(some 134), .fieldA 6 (.t 8), (some (131, false)), none⟩,
      ⟨(some 135), .load (some 4) (.t 134), (some (131, false)), none⟩,
      ⟨(some 136), .mv (.c .junk), (some (131, false)), (some ((.c (.clo f_caesuraref08_Same [] [])), [(.t 133), (.t 135)]))⟩,
      ⟨(some 137), .un .not (.t 136), (some (131, false)), none⟩,
      ⟨(some 138), .pick (.t 131) (.c (.v (.bool true))) (.t 137), none, none⟩])
     (.cond (.t 138) (.seq (.reg none [
       ⟨(some 4), .mv (.c (.v (.bool false))), none, none⟩])
      .ret) .skip))))
    (.reg none [
     ⟨(some 99), .mv (.t 6), none, none⟩,
     ⟨(some 100), .bin .add (.t 99) (.c (.v (.int .i64 1))), none, none⟩,
     ⟨(some 6), .mv (.t 100), none, none⟩])))))
def c_s9c : AC :=
  (.block 4 (.loop (.seq (.seq (.reg none [
     ⟨(some 139), .mv (.t 9), none, none⟩,
     ⟨(some 140), .fieldA 3 (.t 2), none, none⟩,
     ⟨(some 141), .load none (.t 140), none, none⟩,
     ⟨(some 142), .len (.t 141), none, none⟩,
     ⟨(some 143), .bin .lss (.t 139) (.t 142), none, none⟩])
    (.cond (.t 143) .skip (.exit 4)))
    (.seq (.block 5 (.seq (.reg (some []) [
      ⟨(some 146), .fieldA 3 (.t 2), none, none⟩,
      ⟨(some 147), .load none (.t 146), none, none⟩,
      ⟨(some 148), .mv (.t 9), none, none⟩,
      ⟨(some 149), .idxA 1 (.t 147) (.t 148), none, none⟩,
      ⟨(some 150), .load none (.t 149), none, none⟩,
      ⟨(some 151), .fieldA 3 (.t 3), none, none⟩,
      ⟨(some 152), .load none (.t 151), none, none⟩,
      ⟨(some 153), .mv (.t 9), none, none⟩,
      ⟨(some 154), .idxA 1 (.t 152) (.t 153), none, none⟩,
      ⟨(some 155), .load none (.t 154), none, none⟩,
      ⟨(some 156), .bin .neq (.t 150) (.t 155), none, none⟩])
     (.cond (.t 156) (.seq (.reg none [
       ⟨(some 4), .mv (.c (.v (.bool false))), none, none⟩])
      .ret) .skip)))
    (.reg none [
     ⟨(some 144), .mv (.t 9), none, none⟩,
     ⟨(some 145), .bin .add (.t 144) (.c (.v (.int .i64 1))), none, none⟩,
     ⟨(some 9), .mv (.t 145), none, none⟩])))))
def c_caesuraref09_Same (f_caesuraref06_Items f_caesuraref08_Same : FuncId) : AC :=
  (.seq (.reg none [
   ⟨(some 2), .box 4 (.t 0), none, none⟩,
   ⟨(some 3), .box 4 (.t 1), none, none⟩,
   ⟨(some 4), .mv (.c (.v (.bool false))), none, none⟩])
  (.seq (.seq (.reg none [
   ⟨(some 10), .fieldA 0 (.t 2), none, none⟩,
   ⟨(some 11), .load none (.t 10), none, none⟩,
   ⟨(some 12), .len (.t 11), none, none⟩,
   ⟨(some 13), .fieldA 0 (.t 3), none, none⟩,
   ⟨(some 14), .load none (.t 13), none, none⟩,
   ⟨(some 15), .len (.t 14), none, none⟩,
   ⟨(some 16), .bin .neq (.t 12) (.t 15), none, none⟩,
   ⟨(some 17), .mv (.t 16), none, none⟩,
   ⟨(some 18), .fieldA 1 (.t 2), (some (17, false)), none⟩,
   ⟨(some 19), .load none (.t 18), (some (17, false)), none⟩,
   ⟨(some 20), .len (.t 19), (some (17, false)), none⟩,
   ⟨(some 21), .fieldA 1 (.t 3), (some (17, false)), none⟩,
   ⟨(some 22), .load none (.t 21), (some (17, false)), none⟩,
   ⟨(some 23), .len (.t 22), (some (17, false)), none⟩,
   ⟨(some 24), .bin .neq (.t 20) (.t 23), (some (17, false)), none⟩,
   ⟨(some 25), .pick (.t 17) (.c (.v (.bool true))) (.t 24), none, none⟩,
   ⟨(some 26), .mv (.t 25), none, none⟩,
   ⟨(some 27), .fieldA 3 (.t 2), (some (26, false)), none⟩,
   ⟨(some 28), .load none (.t 27), (some (26, false)), none⟩,
   ⟨(some 29), .len (.t 28), (some (26, false)), none⟩,
   ⟨(some 30), .fieldA 3 (.t 3), (some (26, false)), none⟩,
   ⟨(some 31), .load none (.t 30), (some (26, false)), none⟩,
   ⟨(some 32), .len (.t 31), (some (26, false)), none⟩,
   ⟨(some 33), .bin .neq (.t 29) (.t 32), (some (26, false)), none⟩,
   ⟨(some 34), .pick (.t 26) (.c (.v (.bool true))) (.t 33), none, none⟩,
   ⟨(some 35), .mv (.t 34), none, none⟩,
   ⟨(some 36), .fieldA 2 (.t 2), (some (35, false)), none⟩,
   ⟨(some 37), .load none (.t 36), (some (35, false)), none⟩,
   ⟨(some 38), .fieldA 2 (.t 3), (some (35, false)), none⟩,
   ⟨(some 39), .load none (.t 38), (some (35, false)), none⟩,
   ⟨(some 40), .mv (.c .junk), (some (35, false)), (some ((.c (.clo f_caesuraref06_Items [] [])), [(.t 37), (.t 39)]))⟩,
   ⟨(some 41), .un .not (.t 40), (some (35, false)), none⟩,
   ⟨(some 42), .pick (.t 35) (.c (.v (.bool true))) (.t 41), none, none⟩])
  (.cond (.t 42) (.seq (.reg none [
    ⟨(some 4), .mv (.c (.v (.bool false))), none, none⟩])
   .ret) .skip))
  (.seq (.seq (.reg none [
   ⟨(some 5), .mv (.c (.v (.int .i64 0))), none, none⟩])
  (c_s9a f_caesuraref08_Same))
  (.seq (.seq (.reg none [
   ⟨(some 6), .mv (.c (.v (.int .i64 0))), none, none⟩])
  (c_s9b f_caesuraref08_Same))
  (.seq (.seq (.reg none [
   ⟨(some 9), .mv (.c (.v (.int .i64 0))), none, none⟩])
  c_s9c)
  (.seq (.reg none [
   ⟨(some 4), .mv (.c (.v (.bool true))), none, none⟩])
  .ret))))))
/- No list of it is long, its ranges' neither. -/
mutual
def PatS2 : Pat → Prop
  | .mk k s g ks => s.length ≤ 100000 ∧ g.length ≤ 100000 ∧ ks.length ≤ 100000 ∧ PatsS2 ks
def PatsS2 : List Pat → Prop
  | [] => True
  | p :: ps => PatS2 p ∧ PatsS2 ps
end
theorem PatsS2_of : ∀ {ks : List Pat}, (∀ q ∈ ks, PatS2 q) → PatsS2 ks
  | [], _ => trivial
  | p :: ps, h => ⟨h p (by simp), PatsS2_of (fun q hq => h q (by simp [hq]))⟩
mutual
theorem wgtP_small2 : ∀ (p : Pat) (d : Int), goodP p → d ≤ 101 → wgtP p d ≤ 2000 → PatS2 p
  | .mk k s g ks, d, h, hd, hw => by
    have h0 := wgtP_small (.mk k s g ks) d h hd hw
    simp only [Pat.set, Pat.signs, Pat.kids] at h0
    simp only [goodP] at h
    obtain ⟨h1, h2, h3, h4⟩ := h
    rw [wgtP] at hw
    split at hw
    · omega
    · rename_i hd2
      rw [wgtPs_eq] at hw
      have hb := wgtPs_bd ks (d + 1) h4 (by omega)
      obtain ⟨a1, a2, a3⟩ := sumW_all (fun w hw => by obtain ⟨q, hq, rfl⟩ := List.mem_map.mp hw; have := (hb q hq).1; omega) hw
      simp only [PatS2]
      exact ⟨by omega, by omega, by omega, PatsS2_of fun q hq => wgtPs_small2 ks (d + 1) h4 (by omega) (fun q hq => by have := a2 _ (List.mem_map_of_mem hq); omega) q hq⟩
theorem wgtPs_small2 : ∀ (ks : List Pat) (d : Int), goodPs ks → d ≤ 101 → (∀ q ∈ ks, wgtP q d ≤ 2000) → ∀ q ∈ ks, PatS2 q
  | [], _, _, _, _, q, hq => by simp at hq
  | p :: ps, d, h, hd, hw, q, hq => by
    simp only [goodPs] at h
    rcases List.mem_cons.mp hq with e | hq
    · rw [e]; exact wgtP_small2 p d h.1 hd (hw p (by simp))
    · exact wgtPs_small2 ps d h.2 hd (fun q hq => hw q (by simp [hq])) q hq
end
def S8I (p : Pat) (i : Nat) (f : AF) (S : St) : Prop := f 2 = .ptr 0 0 0 ∧ f 3 = .ptr 1 0 0 ∧ f 5 = encI i ∧ S.g 0 = some (.arr 4 [encPat p]) ∧ S.g 1 = some (.arr 4 [encPat p])
theorem Same08_refl {P : Program} {fr fi fs : FuncId} (p : Pat) (hk : Len p.kids) (hr : PureC P fr [encRs p.set, encRs p.set] (encB true)) (hi : PureC P fi [encIs p.signs, encIs p.signs] (encB true)) (hs : ∀ q ∈ p.kids, PureC P fs [encPat q, encPat q] (encB true)) :
    AW P (c_caesuraref08_Same fr fi fs) (RetK [4] (FzK (encB true))) (argF [encPat p, encPat p]) S0 := by
  obtain ⟨k, s, g, ks⟩ := p
  simp only [Pat.kids, Pat.set, Pat.signs, Len] at hk hr hi hs
  have hcells : encPat (.mk k s g ks) = .agg [encI k, encRs s, encIs g, .sl false (ks.map encPat)] := encPat_eq k s g ks
  have c1 := cl_cons (closed_Rs s) (cl_cons (closed_Rs s) cl_nil)
  have c2 := cl_cons (closed_Is g) (cl_cons (closed_Is g) cl_nil)
  have n1 : (k != k) = false := by simp
  have n2 : ((ks.length : Int) != (ks.length : Int)) = false := by simp
  simp only [encRs, encIs] at hr hi c1 c2
  simp [AW_seq, AW_reg, AW_regD, AW_block, AW_cond, AW_skip, AW_exit, AW_ret, AW_scp, condR_true, condR_false, AThen_normal, AThen_ret, AThen_exit, ABlock_normal, ABlock_ret, ABlock_exit, AScope_normal, AScope_ret, AScope_exit, RetK_ret, RetK_normal, retAV_one, retAV_two, retAV_three, retAV_nil, RG_nil, RG_op, RG_guard, gdR_tt, gdR_ff, gdR_tf, gdR_ft, gdR_un, RG_call, callQ_clo, contK_ap, opR_some, RD_nil, RD_op0, RD_op1, opD0_some, opD1_some, RD_call, callQD_clo, RD_guard, gdD_tt, gdD_ff, gdD_tf, gdD_ft, gdD_un, psh_nil, psh_cons, Apt_nil, Apt_nilT, Apt_true, Apt_false, Dis_def, runT_val, runT_rd, runT_wr, runT_new, runT_mv, ex, put_some, put_none, ev_t, ev_c, argF_zero, argF_succ, set_g, set_n, cells_v, cells_sl, cells_agg, cells_own, cells_ptr, cells_clo, cells_eptr, cells_mp, putc, exBslice, lfill, exField, exIdxV, exIdxP, exBox, exAlloc, exLoad, exStore, exFieldA, exIdxA, exLen, exPick, exUn, exBeq, exMM, exSeq, seqGo, exExt, binV, intOp, subc, AV.solid, S0, encI, encB, c_caesuraref08_Same, hcells, encRs, encIs, n1]
  refine CallR.pure hr c1 (closed_B _) ?_
  simp [AW_seq, AW_reg, AW_regD, AW_block, AW_cond, AW_skip, AW_exit, AW_ret, AW_scp, condR_true, condR_false, AThen_normal, AThen_ret, AThen_exit, ABlock_normal, ABlock_ret, ABlock_exit, AScope_normal, AScope_ret, AScope_exit, RetK_ret, RetK_normal, retAV_one, retAV_two, retAV_three, retAV_nil, RG_nil, RG_op, RG_guard, gdR_tt, gdR_ff, gdR_tf, gdR_ft, gdR_un, RG_call, callQ_clo, contK_ap, opR_some, RD_nil, RD_op0, RD_op1, opD0_some, opD1_some, RD_call, callQD_clo, RD_guard, gdD_tt, gdD_ff, gdD_tf, gdD_ft, gdD_un, psh_nil, psh_cons, Apt_nil, Apt_nilT, Apt_true, Apt_false, Dis_def, runT_val, runT_rd, runT_wr, runT_new, runT_mv, ex, put_some, put_none, ev_t, ev_c, argF_zero, argF_succ, set_g, set_n, cells_v, cells_sl, cells_agg, cells_own, cells_ptr, cells_clo, cells_eptr, cells_mp, putc, exBslice, lfill, exField, exIdxV, exIdxP, exBox, exAlloc, exLoad, exStore, exFieldA, exIdxA, exLen, exPick, exUn, exBeq, exMM, exSeq, seqGo, exExt, binV, intOp, subc, AV.solid, S0, encI, encB]
  refine CallR.pure hi c2 (closed_B _) ?_
  simp [AW_seq, AW_reg, AW_regD, AW_block, AW_cond, AW_skip, AW_exit, AW_ret, AW_scp, condR_true, condR_false, AThen_normal, AThen_ret, AThen_exit, ABlock_normal, ABlock_ret, ABlock_exit, AScope_normal, AScope_ret, AScope_exit, RetK_ret, RetK_normal, retAV_one, retAV_two, retAV_three, retAV_nil, RG_nil, RG_op, RG_guard, gdR_tt, gdR_ff, gdR_tf, gdR_ft, gdR_un, RG_call, callQ_clo, contK_ap, opR_some, RD_nil, RD_op0, RD_op1, opD0_some, opD1_some, RD_call, callQD_clo, RD_guard, gdD_tt, gdD_ff, gdD_tf, gdD_ft, gdD_un, psh_nil, psh_cons, Apt_nil, Apt_nilT, Apt_true, Apt_false, Dis_def, runT_val, runT_rd, runT_wr, runT_new, runT_mv, ex, put_some, put_none, ev_t, ev_c, argF_zero, argF_succ, set_g, set_n, cells_v, cells_sl, cells_agg, cells_own, cells_ptr, cells_clo, cells_eptr, cells_mp, putc, exBslice, lfill, exField, exIdxV, exIdxP, exBox, exAlloc, exLoad, exStore, exFieldA, exIdxA, exLen, exPick, exUn, exBeq, exMM, exSeq, seqGo, exExt, binV, intOp, subc, AV.solid, S0, encI, encB, n2]
  refine AW_for ks.length (S8I (.mk k s g ks)) ⟨?_, ?_, ?_, ?_, ?_⟩ ?_
  · simp [put_some]
  · simp [put_some]
  · simp [put_some, encI]
  · simp [set_g, hcells, encI, encRs, encIs]
  · simp [set_g, hcells, encI, encRs, encIs]
  · rintro i f S hi ⟨e2, e3, e5, g0, g1⟩
    have kept := (⟨g0, g1⟩ : S.g 0 = some (.arr 4 [encPat (.mk k s g ks)]) ∧ S.g 1 = some (.arr 4 [encPat (.mk k s g ks)]))
    rw [hcells] at g0 g1
    by_cases hlt : i < ks.length
    · have hg : ks[i]? = some ks[i] := List.getElem?_eq_getElem hlt
      have hq := hs _ (List.getElem_mem hlt)
      have hc := closed_Pat ks[i]
      obtain ⟨x1, x2, x3, x4, hx⟩ := encPat_4 ks[i]
      rw [hx] at hq hc
      have d1 : ∀ n g, CallD P fs _ ⟨n, g⟩ [] _ := fun n g => CallD.kl hq (cl_cons hc (cl_cons hc cl_nil)) (closed_B true)
      simp [AW_seq, AW_reg, AW_regD, AW_block, AW_cond, AW_skip, AW_exit, AW_ret, AW_scp, condR_true, condR_false, AThen_normal, AThen_ret, AThen_exit, ABlock_normal, ABlock_ret, ABlock_exit, AScope_normal, AScope_ret, AScope_exit, RetK_ret, RetK_normal, retAV_one, retAV_two, retAV_three, retAV_nil, RG_nil, RG_op, RG_guard, gdR_tt, gdR_ff, gdR_tf, gdR_ft, gdR_un, RG_call, callQ_clo, contK_ap, opR_some, RD_nil, RD_op0, RD_op1, opD0_some, opD1_some, RD_call, callQD_clo, RD_guard, gdD_tt, gdD_ff, gdD_tf, gdD_ft, gdD_un, psh_nil, psh_cons, Apt_nil, Apt_nilT, Apt_true, Apt_false, Dis_def, runT_val, runT_rd, runT_wr, runT_new, runT_mv, ex, put_some, put_none, ev_t, ev_c, argF_zero, argF_succ, set_g, set_n, cells_v, cells_sl, cells_agg, cells_own, cells_ptr, cells_clo, cells_eptr, cells_mp, putc, exBslice, lfill, exField, exIdxV, exIdxP, exBox, exAlloc, exLoad, exStore, exFieldA, exIdxA, exLen, exPick, exUn, exBeq, exMM, exSeq, seqGo, exExt, binV, intOp, subc, AV.solid, S0, encI, encB, e2, e3, e5, g0, g1, hlt, hg, hx]
      refine ⟨encB true, ⟨[], d1 _ _⟩, ?_⟩
      simp [AW_seq, AW_reg, AW_regD, AW_block, AW_cond, AW_skip, AW_exit, AW_ret, AW_scp, condR_true, condR_false, AThen_normal, AThen_ret, AThen_exit, ABlock_normal, ABlock_ret, ABlock_exit, AScope_normal, AScope_ret, AScope_exit, RetK_ret, RetK_normal, retAV_one, retAV_two, retAV_three, retAV_nil, RG_nil, RG_op, RG_guard, gdR_tt, gdR_ff, gdR_tf, gdR_ft, gdR_un, RG_call, callQ_clo, contK_ap, opR_some, RD_nil, RD_op0, RD_op1, opD0_some, opD1_some, RD_call, callQD_clo, RD_guard, gdD_tt, gdD_ff, gdD_tf, gdD_ft, gdD_un, psh_nil, psh_cons, Apt_nil, Apt_nilT, Apt_true, Apt_false, Dis_def, runT_val, runT_rd, runT_wr, runT_new, runT_mv, ex, put_some, put_none, ev_t, ev_c, argF_zero, argF_succ, set_g, set_n, cells_v, cells_sl, cells_agg, cells_own, cells_ptr, cells_clo, cells_eptr, cells_mp, putc, exBslice, lfill, exField, exIdxV, exIdxP, exBox, exAlloc, exLoad, exStore, exFieldA, exIdxA, exLen, exPick, exUn, exBeq, exMM, exSeq, seqGo, exExt, binV, intOp, subc, AV.solid, S0, encI, encB, e2, e3, e5, g0, g1, hlt, hg, hx]
      rw [wrap_in _ (by omega)]
      refine ⟨hlt, ?_, ?_, ?_, kept.1, kept.2⟩ <;> simp [put_some, e2, e3, encI]
    · simp [AW_seq, AW_reg, AW_regD, AW_block, AW_cond, AW_skip, AW_exit, AW_ret, AW_scp, condR_true, condR_false, AThen_normal, AThen_ret, AThen_exit, ABlock_normal, ABlock_ret, ABlock_exit, AScope_normal, AScope_ret, AScope_exit, RetK_ret, RetK_normal, retAV_one, retAV_two, retAV_three, retAV_nil, RG_nil, RG_op, RG_guard, gdR_tt, gdR_ff, gdR_tf, gdR_ft, gdR_un, RG_call, callQ_clo, contK_ap, opR_some, RD_nil, RD_op0, RD_op1, opD0_some, opD1_some, RD_call, callQD_clo, RD_guard, gdD_tt, gdD_ff, gdD_tf, gdD_ft, gdD_un, psh_nil, psh_cons, Apt_nil, Apt_nilT, Apt_true, Apt_false, Dis_def, runT_val, runT_rd, runT_wr, runT_new, runT_mv, ex, put_some, put_none, ev_t, ev_c, argF_zero, argF_succ, set_g, set_n, cells_v, cells_sl, cells_agg, cells_own, cells_ptr, cells_clo, cells_eptr, cells_mp, putc, exBslice, lfill, exField, exIdxV, exIdxP, exBox, exAlloc, exLoad, exStore, exFieldA, exIdxA, exLen, exPick, exUn, exBeq, exMM, exSeq, seqGo, exExt, binV, intOp, subc, AV.solid, S0, encI, encB, e2, e3, e5, g0, g1, hlt]
      exact FzK_B true _
mutual
theorem same08_ok {P : Program} (hm : P.follows .mixedOrders = true) {fr fi fs : FuncId} (hI : Is P fs (c_caesuraref08_Same fr fi fs) [4] 2) (hr : ∀ a : List Rg, a.length ≤ 100000 → PureC P fr [encRs a, encRs a] (encB true)) (hi : ∀ a : List Int, Len a → PureC P fi [encIs a, encIs a] (encB true)) :
    ∀ p : Pat, PatS2 p → PureC P fs [encPat p, encPat p] (encB true)
  | .mk k s g ks, h => by
    simp only [PatS2] at h
    exact hI.pure hm rfl (Same08_refl (.mk k s g ks) (by simp only [Pat.kids]; unfold Len; omega) (hr _ h.1) (hi _ (by simp only [Pat.signs]; unfold Len; omega)) (same08s_ok hm hI hr hi ks h.2.2.2))
theorem same08s_ok {P : Program} (hm : P.follows .mixedOrders = true) {fr fi fs : FuncId} (hI : Is P fs (c_caesuraref08_Same fr fi fs) [4] 2) (hr : ∀ a : List Rg, a.length ≤ 100000 → PureC P fr [encRs a, encRs a] (encB true)) (hi : ∀ a : List Int, Len a → PureC P fi [encIs a, encIs a] (encB true)) :
    ∀ ks : List Pat, PatsS2 ks → ∀ q ∈ ks, PureC P fs [encPat q, encPat q] (encB true)
  | [], _, q, hq => by simp at hq
  | p :: ps, h, q, hq => by
    simp only [PatsS2] at h
    rcases List.mem_cons.mp hq with e | hq
    · rw [e]; exact same08_ok hm hI hr hi p h.1
    · exact same08s_ok hm hI hr hi ps h.2 q hq
end
def S6I (p : Nod) (i : Nat) (f : AF) (S : St) : Prop := f 2 = .ptr 0 0 0 ∧ f 3 = .ptr 1 0 0 ∧ f 5 = encI i ∧ S.g 0 = some (.arr 5 [encNod p]) ∧ S.g 1 = some (.arr 5 [encNod p])
theorem Same06_refl {P : Program} {fs : FuncId} (p : Nod) (hk : Len p.kids) (hs : ∀ q ∈ p.kids, PureC P fs [encNod q, encNod q] (encB true)) :
    AW P (c_caesuraref06_Same fs) (RetK [4] (FzK (encB true))) (argF [encNod p, encNod p]) S0 := by
  obtain ⟨k, s, a, b, ks⟩ := p
  simp only [Nod.kids, Len] at hk hs
  have hcells : encNod (.mk k s a b ks) = .agg [encI k, encS s, encI a, encI b, .sl false (ks.map encNod)] := encNod_eq k s a b ks
  have n1 : (k != k) = false := by simp
  have n3 : (a != a) = false := by simp
  have n4 : (b != b) = false := by simp
  have n2 : ((ks.length : Int) != (ks.length : Int)) = false := by simp
  have n5 : strOp .neq s s = some (.v (.bool false)) := by simp [strOp]
  simp [AW_seq, AW_reg, AW_regD, AW_block, AW_cond, AW_skip, AW_exit, AW_ret, AW_scp, condR_true, condR_false, AThen_normal, AThen_ret, AThen_exit, ABlock_normal, ABlock_ret, ABlock_exit, AScope_normal, AScope_ret, AScope_exit, RetK_ret, RetK_normal, retAV_one, retAV_two, retAV_three, retAV_nil, RG_nil, RG_op, RG_guard, gdR_tt, gdR_ff, gdR_tf, gdR_ft, gdR_un, RG_call, callQ_clo, contK_ap, opR_some, RD_nil, RD_op0, RD_op1, opD0_some, opD1_some, RD_call, callQD_clo, RD_guard, gdD_tt, gdD_ff, gdD_tf, gdD_ft, gdD_un, psh_nil, psh_cons, Apt_nil, Apt_nilT, Apt_true, Apt_false, Dis_def, runT_val, runT_rd, runT_wr, runT_new, runT_mv, ex, put_some, put_none, ev_t, ev_c, argF_zero, argF_succ, set_g, set_n, cells_v, cells_sl, cells_agg, cells_own, cells_ptr, cells_clo, cells_eptr, cells_mp, putc, exBslice, lfill, exField, exIdxV, exIdxP, exBox, exAlloc, exLoad, exStore, exFieldA, exIdxA, exLen, exPick, exUn, exBeq, exMM, exSeq, seqGo, exExt, binV, intOp, subc, AV.solid, S0, encI, encB, c_caesuraref06_Same, hcells, encS, n1, n3, n4, n2, n5]
  refine AW_for ks.length (S6I (.mk k s a b ks)) ⟨?_, ?_, ?_, ?_, ?_⟩ ?_
  · simp [put_some]
  · simp [put_some]
  · simp [put_some, encI]
  · simp [set_g, hcells, encI, encS]
  · simp [set_g, hcells, encI, encS]
  · rintro i f S hi ⟨e2, e3, e5, g0, g1⟩
    have kept := (⟨g0, g1⟩ : S.g 0 = some (.arr 5 [encNod (.mk k s a b ks)]) ∧ S.g 1 = some (.arr 5 [encNod (.mk k s a b ks)]))
    rw [hcells] at g0 g1
    by_cases hlt : i < ks.length
    · have hg : ks[i]? = some ks[i] := List.getElem?_eq_getElem hlt
      have hq := hs _ (List.getElem_mem hlt)
      have hc := closed_Nod ks[i]
      obtain ⟨x1, x2, x3, x4, x5, hx⟩ := encNod_5 ks[i]
      rw [hx] at hq hc
      have d1 : ∀ n g, CallD P fs _ ⟨n, g⟩ [] _ := fun n g => CallD.kl hq (cl_cons hc (cl_cons hc cl_nil)) (closed_B true)
      simp [AW_seq, AW_reg, AW_regD, AW_block, AW_cond, AW_skip, AW_exit, AW_ret, AW_scp, condR_true, condR_false, AThen_normal, AThen_ret, AThen_exit, ABlock_normal, ABlock_ret, ABlock_exit, AScope_normal, AScope_ret, AScope_exit, RetK_ret, RetK_normal, retAV_one, retAV_two, retAV_three, retAV_nil, RG_nil, RG_op, RG_guard, gdR_tt, gdR_ff, gdR_tf, gdR_ft, gdR_un, RG_call, callQ_clo, contK_ap, opR_some, RD_nil, RD_op0, RD_op1, opD0_some, opD1_some, RD_call, callQD_clo, RD_guard, gdD_tt, gdD_ff, gdD_tf, gdD_ft, gdD_un, psh_nil, psh_cons, Apt_nil, Apt_nilT, Apt_true, Apt_false, Dis_def, runT_val, runT_rd, runT_wr, runT_new, runT_mv, ex, put_some, put_none, ev_t, ev_c, argF_zero, argF_succ, set_g, set_n, cells_v, cells_sl, cells_agg, cells_own, cells_ptr, cells_clo, cells_eptr, cells_mp, putc, exBslice, lfill, exField, exIdxV, exIdxP, exBox, exAlloc, exLoad, exStore, exFieldA, exIdxA, exLen, exPick, exUn, exBeq, exMM, exSeq, seqGo, exExt, binV, intOp, subc, AV.solid, S0, encI, encB, e2, e3, e5, g0, g1, hlt, hg, hx]
      refine ⟨encB true, ⟨[], d1 _ _⟩, ?_⟩
      simp [AW_seq, AW_reg, AW_regD, AW_block, AW_cond, AW_skip, AW_exit, AW_ret, AW_scp, condR_true, condR_false, AThen_normal, AThen_ret, AThen_exit, ABlock_normal, ABlock_ret, ABlock_exit, AScope_normal, AScope_ret, AScope_exit, RetK_ret, RetK_normal, retAV_one, retAV_two, retAV_three, retAV_nil, RG_nil, RG_op, RG_guard, gdR_tt, gdR_ff, gdR_tf, gdR_ft, gdR_un, RG_call, callQ_clo, contK_ap, opR_some, RD_nil, RD_op0, RD_op1, opD0_some, opD1_some, RD_call, callQD_clo, RD_guard, gdD_tt, gdD_ff, gdD_tf, gdD_ft, gdD_un, psh_nil, psh_cons, Apt_nil, Apt_nilT, Apt_true, Apt_false, Dis_def, runT_val, runT_rd, runT_wr, runT_new, runT_mv, ex, put_some, put_none, ev_t, ev_c, argF_zero, argF_succ, set_g, set_n, cells_v, cells_sl, cells_agg, cells_own, cells_ptr, cells_clo, cells_eptr, cells_mp, putc, exBslice, lfill, exField, exIdxV, exIdxP, exBox, exAlloc, exLoad, exStore, exFieldA, exIdxA, exLen, exPick, exUn, exBeq, exMM, exSeq, seqGo, exExt, binV, intOp, subc, AV.solid, S0, encI, encB, e2, e3, e5, g0, g1, hlt, hg, hx]
      rw [wrap_in _ (by omega)]
      refine ⟨hlt, ?_, ?_, ?_, kept.1, kept.2⟩ <;> simp [put_some, e2, e3, encI]
    · simp [AW_seq, AW_reg, AW_regD, AW_block, AW_cond, AW_skip, AW_exit, AW_ret, AW_scp, condR_true, condR_false, AThen_normal, AThen_ret, AThen_exit, ABlock_normal, ABlock_ret, ABlock_exit, AScope_normal, AScope_ret, AScope_exit, RetK_ret, RetK_normal, retAV_one, retAV_two, retAV_three, retAV_nil, RG_nil, RG_op, RG_guard, gdR_tt, gdR_ff, gdR_tf, gdR_ft, gdR_un, RG_call, callQ_clo, contK_ap, opR_some, RD_nil, RD_op0, RD_op1, opD0_some, opD1_some, RD_call, callQD_clo, RD_guard, gdD_tt, gdD_ff, gdD_tf, gdD_ft, gdD_un, psh_nil, psh_cons, Apt_nil, Apt_nilT, Apt_true, Apt_false, Dis_def, runT_val, runT_rd, runT_wr, runT_new, runT_mv, ex, put_some, put_none, ev_t, ev_c, argF_zero, argF_succ, set_g, set_n, cells_v, cells_sl, cells_agg, cells_own, cells_ptr, cells_clo, cells_eptr, cells_mp, putc, exBslice, lfill, exField, exIdxV, exIdxP, exBox, exAlloc, exLoad, exStore, exFieldA, exIdxA, exLen, exPick, exUn, exBeq, exMM, exSeq, seqGo, exExt, binV, intOp, subc, AV.solid, S0, encI, encB, e2, e3, e5, g0, g1, hlt]
      exact FzK_B true _
mutual
theorem same06_ok {P : Program} (hm : P.follows .mixedOrders = true) {fs : FuncId} (hI : Is P fs (c_caesuraref06_Same fs) [4] 2) : ∀ p : Nod, goodN p → PureC P fs [encNod p, encNod p] (encB true)
  | .mk k s a b ks, h => by
    simp only [goodN] at h
    exact hI.pure hm rfl (Same06_refl (.mk k s a b ks) (by simp only [Nod.kids]; exact h.2.1) (same06s_ok hm hI ks h.2.2))
theorem same06s_ok {P : Program} (hm : P.follows .mixedOrders = true) {fs : FuncId} (hI : Is P fs (c_caesuraref06_Same fs) [4] 2) : ∀ ks : List Nod, goodNs ks → ∀ q ∈ ks, PureC P fs [encNod q, encNod q] (encB true)
  | [], _, q, hq => by simp at hq
  | p :: ps, h, q, hq => by
    simp only [goodNs] at h
    rcases List.mem_cons.mp hq with e | hq
    · rw [e]; exact same06_ok hm hI p h.1
    · exact same06s_ok hm hI ps h.2 q hq
end
def SiI (l : List Itm) (i : Nat) (f : AF) (S : St) : Prop := f 0 = .sl false (l.map encItm) ∧ f 1 = .sl false (l.map encItm) ∧ f 5 = encI i
theorem Items_refl {P : Program} {fs : FuncId} (l : List Itm) (hl : Len l) (hs : ∀ v ∈ l, PureC P fs [encNod v.before, encNod v.before] (encB true) ∧ PureC P fs [encNod v.after, encNod v.after] (encB true)) :
    AW P (c_caesuraref06_Items fs) (RetK [4] (FzK (encB true))) (argF [.sl false (l.map encItm), .sl false (l.map encItm)]) S0 := by
  unfold Len at hl
  have n2 : ((l.length : Int) != (l.length : Int)) = false := by simp
  simp [AW_seq, AW_reg, AW_regD, AW_block, AW_cond, AW_skip, AW_exit, AW_ret, AW_scp, condR_true, condR_false, AThen_normal, AThen_ret, AThen_exit, ABlock_normal, ABlock_ret, ABlock_exit, AScope_normal, AScope_ret, AScope_exit, RetK_ret, RetK_normal, retAV_one, retAV_two, retAV_three, retAV_nil, RG_nil, RG_op, RG_guard, gdR_tt, gdR_ff, gdR_tf, gdR_ft, gdR_un, RG_call, callQ_clo, contK_ap, opR_some, RD_nil, RD_op0, RD_op1, opD0_some, opD1_some, RD_call, callQD_clo, RD_guard, gdD_tt, gdD_ff, gdD_tf, gdD_ft, gdD_un, psh_nil, psh_cons, Apt_nil, Apt_nilT, Apt_true, Apt_false, Dis_def, runT_val, runT_rd, runT_wr, runT_new, runT_mv, ex, put_some, put_none, ev_t, ev_c, argF_zero, argF_succ, set_g, set_n, cells_v, cells_sl, cells_agg, cells_own, cells_ptr, cells_clo, cells_eptr, cells_mp, putc, exBslice, lfill, exField, exIdxV, exIdxP, exBox, exAlloc, exLoad, exStore, exFieldA, exIdxA, exLen, exPick, exUn, exBeq, exMM, exSeq, seqGo, exExt, binV, intOp, subc, AV.solid, S0, encI, encB, c_caesuraref06_Items, n2]
  refine AW_for l.length (SiI l) ⟨?_, ?_, ?_⟩ ?_
  · simp [put_some, argF_zero, argF_succ]
  · simp [put_some, argF_zero, argF_succ]
  · simp [put_some, encI]
  · rintro i f S hi ⟨e0, e1, e5⟩
    by_cases hlt : i < l.length
    · have hg : l[i]? = some l[i] := List.getElem?_eq_getElem hlt
      obtain ⟨h1, h2⟩ := hs _ (List.getElem_mem hlt)
      have hc := closed_Nod l[i].before
      have hd := closed_Nod l[i].after
      obtain ⟨x1, x2, x3, x4, x5, y1, y2, y3, y4, y5, hx, hy, hz⟩ := encItm_15 l[i]
      rw [hx] at h1 hc
      rw [hy] at h2 hd
      have n1 : (l[i].kind != l[i].kind) = false := by simp
      have n3 : (l[i].number != l[i].number) = false := by simp
      have n5 : strOp .neq l[i].name l[i].name = some (.v (.bool false)) := by simp [strOp]
      have n6 : (l[i].cut != l[i].cut) = false := by simp
      simp [AW_seq, AW_reg, AW_regD, AW_block, AW_cond, AW_skip, AW_exit, AW_ret, AW_scp, condR_true, condR_false, AThen_normal, AThen_ret, AThen_exit, ABlock_normal, ABlock_ret, ABlock_exit, AScope_normal, AScope_ret, AScope_exit, RetK_ret, RetK_normal, retAV_one, retAV_two, retAV_three, retAV_nil, RG_nil, RG_op, RG_guard, gdR_tt, gdR_ff, gdR_tf, gdR_ft, gdR_un, RG_call, callQ_clo, contK_ap, opR_some, RD_nil, RD_op0, RD_op1, opD0_some, opD1_some, RD_call, callQD_clo, RD_guard, gdD_tt, gdD_ff, gdD_tf, gdD_ft, gdD_un, psh_nil, psh_cons, Apt_nil, Apt_nilT, Apt_true, Apt_false, Dis_def, runT_val, runT_rd, runT_wr, runT_new, runT_mv, ex, put_some, put_none, ev_t, ev_c, argF_zero, argF_succ, set_g, set_n, cells_v, cells_sl, cells_agg, cells_own, cells_ptr, cells_clo, cells_eptr, cells_mp, putc, exBslice, lfill, exField, exIdxV, exIdxP, exBox, exAlloc, exLoad, exStore, exFieldA, exIdxA, exLen, exPick, exUn, exBeq, exMM, exSeq, seqGo, exExt, binV, intOp, subc, AV.solid, S0, encI, encB, e0, e1, e5, hlt, hg, hz, encS, n1, n3, n5, n6]
      refine CallR.pure h1 (cl_cons hc (cl_cons hc cl_nil)) (closed_B _) ?_
      simp [AW_seq, AW_reg, AW_regD, AW_block, AW_cond, AW_skip, AW_exit, AW_ret, AW_scp, condR_true, condR_false, AThen_normal, AThen_ret, AThen_exit, ABlock_normal, ABlock_ret, ABlock_exit, AScope_normal, AScope_ret, AScope_exit, RetK_ret, RetK_normal, retAV_one, retAV_two, retAV_three, retAV_nil, RG_nil, RG_op, RG_guard, gdR_tt, gdR_ff, gdR_tf, gdR_ft, gdR_un, RG_call, callQ_clo, contK_ap, opR_some, RD_nil, RD_op0, RD_op1, opD0_some, opD1_some, RD_call, callQD_clo, RD_guard, gdD_tt, gdD_ff, gdD_tf, gdD_ft, gdD_un, psh_nil, psh_cons, Apt_nil, Apt_nilT, Apt_true, Apt_false, Dis_def, runT_val, runT_rd, runT_wr, runT_new, runT_mv, ex, put_some, put_none, ev_t, ev_c, argF_zero, argF_succ, set_g, set_n, cells_v, cells_sl, cells_agg, cells_own, cells_ptr, cells_clo, cells_eptr, cells_mp, putc, exBslice, lfill, exField, exIdxV, exIdxP, exBox, exAlloc, exLoad, exStore, exFieldA, exIdxA, exLen, exPick, exUn, exBeq, exMM, exSeq, seqGo, exExt, binV, intOp, subc, AV.solid, S0, encI, encB]
      refine CallR.pure h2 (cl_cons hd (cl_cons hd cl_nil)) (closed_B _) ?_
      simp [AW_seq, AW_reg, AW_regD, AW_block, AW_cond, AW_skip, AW_exit, AW_ret, AW_scp, condR_true, condR_false, AThen_normal, AThen_ret, AThen_exit, ABlock_normal, ABlock_ret, ABlock_exit, AScope_normal, AScope_ret, AScope_exit, RetK_ret, RetK_normal, retAV_one, retAV_two, retAV_three, retAV_nil, RG_nil, RG_op, RG_guard, gdR_tt, gdR_ff, gdR_tf, gdR_ft, gdR_un, RG_call, callQ_clo, contK_ap, opR_some, RD_nil, RD_op0, RD_op1, opD0_some, opD1_some, RD_call, callQD_clo, RD_guard, gdD_tt, gdD_ff, gdD_tf, gdD_ft, gdD_un, psh_nil, psh_cons, Apt_nil, Apt_nilT, Apt_true, Apt_false, Dis_def, runT_val, runT_rd, runT_wr, runT_new, runT_mv, ex, put_some, put_none, ev_t, ev_c, argF_zero, argF_succ, set_g, set_n, cells_v, cells_sl, cells_agg, cells_own, cells_ptr, cells_clo, cells_eptr, cells_mp, putc, exBslice, lfill, exField, exIdxV, exIdxP, exBox, exAlloc, exLoad, exStore, exFieldA, exIdxA, exLen, exPick, exUn, exBeq, exMM, exSeq, seqGo, exExt, binV, intOp, subc, AV.solid, S0, encI, encB, e5]
      rw [wrap_in _ (by omega)]
      refine ⟨hlt, ?_, ?_, ?_⟩ <;> simp [put_some, e0, e1, encI]
    · simp [AW_seq, AW_reg, AW_regD, AW_block, AW_cond, AW_skip, AW_exit, AW_ret, AW_scp, condR_true, condR_false, AThen_normal, AThen_ret, AThen_exit, ABlock_normal, ABlock_ret, ABlock_exit, AScope_normal, AScope_ret, AScope_exit, RetK_ret, RetK_normal, retAV_one, retAV_two, retAV_three, retAV_nil, RG_nil, RG_op, RG_guard, gdR_tt, gdR_ff, gdR_tf, gdR_ft, gdR_un, RG_call, callQ_clo, contK_ap, opR_some, RD_nil, RD_op0, RD_op1, opD0_some, opD1_some, RD_call, callQD_clo, RD_guard, gdD_tt, gdD_ff, gdD_tf, gdD_ft, gdD_un, psh_nil, psh_cons, Apt_nil, Apt_nilT, Apt_true, Apt_false, Dis_def, runT_val, runT_rd, runT_wr, runT_new, runT_mv, ex, put_some, put_none, ev_t, ev_c, argF_zero, argF_succ, set_g, set_n, cells_v, cells_sl, cells_agg, cells_own, cells_ptr, cells_clo, cells_eptr, cells_mp, putc, exBslice, lfill, exField, exIdxV, exIdxP, exBox, exAlloc, exLoad, exStore, exFieldA, exIdxA, exLen, exPick, exUn, exBeq, exMM, exSeq, seqGo, exExt, binV, intOp, subc, AV.solid, S0, encI, encB, e0, e1, e5, hlt]
      exact FzK_B true _
structure S9S (x : Book) (f : AF) (S : St) : Prop where
  e2 : f 2 = .ptr 0 0 0
  e3 : f 3 = .ptr 1 0 0
  g0 : S.g 0 = some (.arr 4 [encBook x])
  g1 : S.g 1 = some (.arr 4 [encBook x])
theorem s9a_loop {P : Program} {fs : FuncId} {x : Book} (hl : Len x.vars) (hs : ∀ v ∈ x.vars, PureC P fs [encPat v.pat, encPat v.pat] (encB true)) {f : AF} {S : St} {Q : Exit → AF → St → Prop} (h0 : S9S x f S ∧ f 5 = encI 0) (hQ : ∀ f' S', S9S x f' S' → Q .normal f' S') : AW P (c_s9a fs) Q f S := by
  unfold Len at hl
  simp [AW_seq, AW_reg, AW_regD, AW_block, AW_cond, AW_skip, AW_exit, AW_ret, AW_scp, condR_true, condR_false, AThen_normal, AThen_ret, AThen_exit, ABlock_normal, ABlock_ret, ABlock_exit, AScope_normal, AScope_ret, AScope_exit, RetK_ret, RetK_normal, retAV_one, retAV_two, retAV_three, retAV_nil, RG_nil, RG_op, RG_guard, gdR_tt, gdR_ff, gdR_tf, gdR_ft, gdR_un, RG_call, callQ_clo, contK_ap, opR_some, RD_nil, RD_op0, RD_op1, opD0_some, opD1_some, RD_call, callQD_clo, RD_guard, gdD_tt, gdD_ff, gdD_tf, gdD_ft, gdD_un, psh_nil, psh_cons, Apt_nil, Apt_nilT, Apt_true, Apt_false, Dis_def, runT_val, runT_rd, runT_wr, runT_new, runT_mv, ex, put_some, put_none, ev_t, ev_c, argF_zero, argF_succ, set_g, set_n, cells_v, cells_sl, cells_agg, cells_own, cells_ptr, cells_clo, cells_eptr, cells_mp, putc, exBslice, lfill, exField, exIdxV, exIdxP, exBox, exAlloc, exLoad, exStore, exFieldA, exIdxA, exLen, exPick, exUn, exBeq, exMM, exSeq, seqGo, exExt, binV, intOp, subc, AV.solid, S0, encI, encB, c_s9a]
  refine AW_for x.vars.length (fun i f S => S9S x f S ∧ f 5 = encI i) h0 ?_
  rintro i f S hi ⟨⟨e2, e3, g0, g1⟩, e5⟩
  have kept := (⟨g0, g1⟩ : S.g 0 = some (.arr 4 [encBook x]) ∧ S.g 1 = some (.arr 4 [encBook x]))
  simp only [encBook, encBk, Book.bk] at g0 g1
  by_cases hlt : i < x.vars.length
  · have hg : x.vars[i]? = some x.vars[i] := List.getElem?_eq_getElem hlt
    have h1 := hs _ (List.getElem_mem hlt)
    have hc := closed_Pat x.vars[i].pat
    obtain ⟨x1, x2, x3, x4, hx, hz⟩ := encVr_7 x.vars[i]
    rw [hx] at h1 hc
    have n5 : strOp .neq x.vars[i].name x.vars[i].name = some (.v (.bool false)) := by simp [strOp]
    have n6 : (x.vars[i].set != x.vars[i].set) = false := by simp
    have d1 : ∀ n g, CallD P fs _ ⟨n, g⟩ [] _ := fun n g => CallD.kl h1 (cl_cons hc (cl_cons hc cl_nil)) (closed_B true)
    simp [AW_seq, AW_reg, AW_regD, AW_block, AW_cond, AW_skip, AW_exit, AW_ret, AW_scp, condR_true, condR_false, AThen_normal, AThen_ret, AThen_exit, ABlock_normal, ABlock_ret, ABlock_exit, AScope_normal, AScope_ret, AScope_exit, RetK_ret, RetK_normal, retAV_one, retAV_two, retAV_three, retAV_nil, RG_nil, RG_op, RG_guard, gdR_tt, gdR_ff, gdR_tf, gdR_ft, gdR_un, RG_call, callQ_clo, contK_ap, opR_some, RD_nil, RD_op0, RD_op1, opD0_some, opD1_some, RD_call, callQD_clo, RD_guard, gdD_tt, gdD_ff, gdD_tf, gdD_ft, gdD_un, psh_nil, psh_cons, Apt_nil, Apt_nilT, Apt_true, Apt_false, Dis_def, runT_val, runT_rd, runT_wr, runT_new, runT_mv, ex, put_some, put_none, ev_t, ev_c, argF_zero, argF_succ, set_g, set_n, cells_v, cells_sl, cells_agg, cells_own, cells_ptr, cells_clo, cells_eptr, cells_mp, putc, exBslice, lfill, exField, exIdxV, exIdxP, exBox, exAlloc, exLoad, exStore, exFieldA, exIdxA, exLen, exPick, exUn, exBeq, exMM, exSeq, seqGo, exExt, binV, intOp, subc, AV.solid, S0, encI, encB, e2, e3, e5, g0, g1, hlt, hg, hz, encS, n5, n6]
    refine ⟨encB true, ⟨[], d1 _ _⟩, ?_⟩
    simp [AW_seq, AW_reg, AW_regD, AW_block, AW_cond, AW_skip, AW_exit, AW_ret, AW_scp, condR_true, condR_false, AThen_normal, AThen_ret, AThen_exit, ABlock_normal, ABlock_ret, ABlock_exit, AScope_normal, AScope_ret, AScope_exit, RetK_ret, RetK_normal, retAV_one, retAV_two, retAV_three, retAV_nil, RG_nil, RG_op, RG_guard, gdR_tt, gdR_ff, gdR_tf, gdR_ft, gdR_un, RG_call, callQ_clo, contK_ap, opR_some, RD_nil, RD_op0, RD_op1, opD0_some, opD1_some, RD_call, callQD_clo, RD_guard, gdD_tt, gdD_ff, gdD_tf, gdD_ft, gdD_un, psh_nil, psh_cons, Apt_nil, Apt_nilT, Apt_true, Apt_false, Dis_def, runT_val, runT_rd, runT_wr, runT_new, runT_mv, ex, put_some, put_none, ev_t, ev_c, argF_zero, argF_succ, set_g, set_n, cells_v, cells_sl, cells_agg, cells_own, cells_ptr, cells_clo, cells_eptr, cells_mp, putc, exBslice, lfill, exField, exIdxV, exIdxP, exBox, exAlloc, exLoad, exStore, exFieldA, exIdxA, exLen, exPick, exUn, exBeq, exMM, exSeq, seqGo, exExt, binV, intOp, subc, AV.solid, S0, encI, encB, e2, e3, e5, g0, g1, hlt, hg, hz, encS]
    rw [wrap_in _ (by omega)]
    refine ⟨hlt, ⟨?_, ?_, kept.1, kept.2⟩, ?_⟩ <;> simp [put_some, e2, e3, encI]
  · simp [AW_seq, AW_reg, AW_regD, AW_block, AW_cond, AW_skip, AW_exit, AW_ret, AW_scp, condR_true, condR_false, AThen_normal, AThen_ret, AThen_exit, ABlock_normal, ABlock_ret, ABlock_exit, AScope_normal, AScope_ret, AScope_exit, RetK_ret, RetK_normal, retAV_one, retAV_two, retAV_three, retAV_nil, RG_nil, RG_op, RG_guard, gdR_tt, gdR_ff, gdR_tf, gdR_ft, gdR_un, RG_call, callQ_clo, contK_ap, opR_some, RD_nil, RD_op0, RD_op1, opD0_some, opD1_some, RD_call, callQD_clo, RD_guard, gdD_tt, gdD_ff, gdD_tf, gdD_ft, gdD_un, psh_nil, psh_cons, Apt_nil, Apt_nilT, Apt_true, Apt_false, Dis_def, runT_val, runT_rd, runT_wr, runT_new, runT_mv, ex, put_some, put_none, ev_t, ev_c, argF_zero, argF_succ, set_g, set_n, cells_v, cells_sl, cells_agg, cells_own, cells_ptr, cells_clo, cells_eptr, cells_mp, putc, exBslice, lfill, exField, exIdxV, exIdxP, exBox, exAlloc, exLoad, exStore, exFieldA, exIdxA, exLen, exPick, exUn, exBeq, exMM, exSeq, seqGo, exExt, binV, intOp, subc, AV.solid, S0, encI, encB, e2, e3, e5, g0, g1, hlt]
    exact hQ _ _ ⟨by simp [put_some, e2], by simp [put_some, e3], kept.1, kept.2⟩
theorem s9c_loop {P : Program} {x : Book} (hl : Len x.used) {f : AF} {S : St} {Q : Exit → AF → St → Prop} (h0 : S9S x f S ∧ f 9 = encI 0) (hQ : ∀ f' S', S9S x f' S' → Q .normal f' S') : AW P c_s9c Q f S := by
  unfold Len at hl
  simp [AW_seq, AW_reg, AW_regD, AW_block, AW_cond, AW_skip, AW_exit, AW_ret, AW_scp, condR_true, condR_false, AThen_normal, AThen_ret, AThen_exit, ABlock_normal, ABlock_ret, ABlock_exit, AScope_normal, AScope_ret, AScope_exit, RetK_ret, RetK_normal, retAV_one, retAV_two, retAV_three, retAV_nil, RG_nil, RG_op, RG_guard, gdR_tt, gdR_ff, gdR_tf, gdR_ft, gdR_un, RG_call, callQ_clo, contK_ap, opR_some, RD_nil, RD_op0, RD_op1, opD0_some, opD1_some, RD_call, callQD_clo, RD_guard, gdD_tt, gdD_ff, gdD_tf, gdD_ft, gdD_un, psh_nil, psh_cons, Apt_nil, Apt_nilT, Apt_true, Apt_false, Dis_def, runT_val, runT_rd, runT_wr, runT_new, runT_mv, ex, put_some, put_none, ev_t, ev_c, argF_zero, argF_succ, set_g, set_n, cells_v, cells_sl, cells_agg, cells_own, cells_ptr, cells_clo, cells_eptr, cells_mp, putc, exBslice, lfill, exField, exIdxV, exIdxP, exBox, exAlloc, exLoad, exStore, exFieldA, exIdxA, exLen, exPick, exUn, exBeq, exMM, exSeq, seqGo, exExt, binV, intOp, subc, AV.solid, S0, encI, encB, c_s9c]
  refine AW_for x.used.length (fun i f S => S9S x f S ∧ f 9 = encI i) h0 ?_
  rintro i f S hi ⟨⟨e2, e3, g0, g1⟩, e9⟩
  have kept := (⟨g0, g1⟩ : S.g 0 = some (.arr 4 [encBook x]) ∧ S.g 1 = some (.arr 4 [encBook x]))
  simp only [encBook, encBk, Book.bk] at g0 g1
  by_cases hlt : i < x.used.length
  · have hg : x.used[i]? = some x.used[i] := List.getElem?_eq_getElem hlt
    have n5 : strOp .neq x.used[i] x.used[i] = some (.v (.bool false)) := by simp [strOp]
    simp [AW_seq, AW_reg, AW_regD, AW_block, AW_cond, AW_skip, AW_exit, AW_ret, AW_scp, condR_true, condR_false, AThen_normal, AThen_ret, AThen_exit, ABlock_normal, ABlock_ret, ABlock_exit, AScope_normal, AScope_ret, AScope_exit, RetK_ret, RetK_normal, retAV_one, retAV_two, retAV_three, retAV_nil, RG_nil, RG_op, RG_guard, gdR_tt, gdR_ff, gdR_tf, gdR_ft, gdR_un, RG_call, callQ_clo, contK_ap, opR_some, RD_nil, RD_op0, RD_op1, opD0_some, opD1_some, RD_call, callQD_clo, RD_guard, gdD_tt, gdD_ff, gdD_tf, gdD_ft, gdD_un, psh_nil, psh_cons, Apt_nil, Apt_nilT, Apt_true, Apt_false, Dis_def, runT_val, runT_rd, runT_wr, runT_new, runT_mv, ex, put_some, put_none, ev_t, ev_c, argF_zero, argF_succ, set_g, set_n, cells_v, cells_sl, cells_agg, cells_own, cells_ptr, cells_clo, cells_eptr, cells_mp, putc, exBslice, lfill, exField, exIdxV, exIdxP, exBox, exAlloc, exLoad, exStore, exFieldA, exIdxA, exLen, exPick, exUn, exBeq, exMM, exSeq, seqGo, exExt, binV, intOp, subc, AV.solid, S0, encI, encB, e2, e3, e9, g0, g1, hlt, hg, encS, n5]
    rw [wrap_in _ (by omega)]
    refine ⟨hlt, ⟨?_, ?_, kept.1, kept.2⟩, ?_⟩ <;> simp [put_some, e2, e3, encI]
  · simp [AW_seq, AW_reg, AW_regD, AW_block, AW_cond, AW_skip, AW_exit, AW_ret, AW_scp, condR_true, condR_false, AThen_normal, AThen_ret, AThen_exit, ABlock_normal, ABlock_ret, ABlock_exit, AScope_normal, AScope_ret, AScope_exit, RetK_ret, RetK_normal, retAV_one, retAV_two, retAV_three, retAV_nil, RG_nil, RG_op, RG_guard, gdR_tt, gdR_ff, gdR_tf, gdR_ft, gdR_un, RG_call, callQ_clo, contK_ap, opR_some, RD_nil, RD_op0, RD_op1, opD0_some, opD1_some, RD_call, callQD_clo, RD_guard, gdD_tt, gdD_ff, gdD_tf, gdD_ft, gdD_un, psh_nil, psh_cons, Apt_nil, Apt_nilT, Apt_true, Apt_false, Dis_def, runT_val, runT_rd, runT_wr, runT_new, runT_mv, ex, put_some, put_none, ev_t, ev_c, argF_zero, argF_succ, set_g, set_n, cells_v, cells_sl, cells_agg, cells_own, cells_ptr, cells_clo, cells_eptr, cells_mp, putc, exBslice, lfill, exField, exIdxV, exIdxP, exBox, exAlloc, exLoad, exStore, exFieldA, exIdxA, exLen, exPick, exUn, exBeq, exMM, exSeq, seqGo, exExt, binV, intOp, subc, AV.solid, S0, encI, encB, e2, e3, e9, g0, g1, hlt]
    exact hQ _ _ ⟨by simp [put_some, e2], by simp [put_some, e3], kept.1, kept.2⟩
theorem Same09_none {P : Program} {fi fs : FuncId} (x : Book) (g : goodBook x) (hr : x.rules = []) (hi : PureC P fi [.sl false (x.allows.map encItm), .sl false (x.allows.map encItm)] (encB true)) (hs : ∀ v ∈ x.vars, PureC P fs [encPat v.pat, encPat v.pat] (encB true)) :
    AW P (c_caesuraref09_Same fi fs) (RetK [4] (FzK (encB true))) (argF [encBook x, encBook x]) S0 := by
  have c1 := cl_cons (closed_map (t := false) closed_Itm x.allows) (cl_cons (closed_map (t := false) closed_Itm x.allows) cl_nil)
  have hb : encBook x = .agg [.sl false (x.vars.map encVr), .sl false [], .sl false (x.allows.map encItm), .sl false (x.used.map encS)] := by simp [encBook, encBk, Book.bk, hr]
  have n1 : ((x.vars.length : Int) != (x.vars.length : Int)) = false := by simp
  have n2 : ((x.used.length : Int) != (x.used.length : Int)) = false := by simp
  simp [AW_seq, AW_reg, AW_regD, AW_block, AW_cond, AW_skip, AW_exit, AW_ret, AW_scp, condR_true, condR_false, AThen_normal, AThen_ret, AThen_exit, ABlock_normal, ABlock_ret, ABlock_exit, AScope_normal, AScope_ret, AScope_exit, RetK_ret, RetK_normal, retAV_one, retAV_two, retAV_three, retAV_nil, RG_nil, RG_op, RG_guard, gdR_tt, gdR_ff, gdR_tf, gdR_ft, gdR_un, RG_call, callQ_clo, contK_ap, opR_some, RD_nil, RD_op0, RD_op1, opD0_some, opD1_some, RD_call, callQD_clo, RD_guard, gdD_tt, gdD_ff, gdD_tf, gdD_ft, gdD_un, psh_nil, psh_cons, Apt_nil, Apt_nilT, Apt_true, Apt_false, Dis_def, runT_val, runT_rd, runT_wr, runT_new, runT_mv, ex, put_some, put_none, ev_t, ev_c, argF_zero, argF_succ, set_g, set_n, cells_v, cells_sl, cells_agg, cells_own, cells_ptr, cells_clo, cells_eptr, cells_mp, putc, exBslice, lfill, exField, exIdxV, exIdxP, exBox, exAlloc, exLoad, exStore, exFieldA, exIdxA, exLen, exPick, exUn, exBeq, exMM, exSeq, seqGo, exExt, binV, intOp, subc, AV.solid, S0, encI, encB, c_caesuraref09_Same, hb, n1, n2]
  refine CallR.pure hi c1 (closed_B _) ?_
  simp [AW_seq, AW_reg, AW_regD, AW_block, AW_cond, AW_skip, AW_exit, AW_ret, AW_scp, condR_true, condR_false, AThen_normal, AThen_ret, AThen_exit, ABlock_normal, ABlock_ret, ABlock_exit, AScope_normal, AScope_ret, AScope_exit, RetK_ret, RetK_normal, retAV_one, retAV_two, retAV_three, retAV_nil, RG_nil, RG_op, RG_guard, gdR_tt, gdR_ff, gdR_tf, gdR_ft, gdR_un, RG_call, callQ_clo, contK_ap, opR_some, RD_nil, RD_op0, RD_op1, opD0_some, opD1_some, RD_call, callQD_clo, RD_guard, gdD_tt, gdD_ff, gdD_tf, gdD_ft, gdD_un, psh_nil, psh_cons, Apt_nil, Apt_nilT, Apt_true, Apt_false, Dis_def, runT_val, runT_rd, runT_wr, runT_new, runT_mv, ex, put_some, put_none, ev_t, ev_c, argF_zero, argF_succ, set_g, set_n, cells_v, cells_sl, cells_agg, cells_own, cells_ptr, cells_clo, cells_eptr, cells_mp, putc, exBslice, lfill, exField, exIdxV, exIdxP, exBox, exAlloc, exLoad, exStore, exFieldA, exIdxA, exLen, exPick, exUn, exBeq, exMM, exSeq, seqGo, exExt, binV, intOp, subc, AV.solid, S0, encI, encB]
  refine s9a_loop (x := x) g.v.1 hs ⟨⟨?_, ?_, ?_, ?_⟩, ?_⟩ (fun f S h => ?_)
  · simp [put_some]
  · simp [put_some]
  · simp [set_g, hb]
  · simp [set_g, hb]
  · simp [put_some, encI]
  · obtain ⟨e2, e3, g0, g1⟩ := h
    have kept := (⟨g0, g1⟩ : S.g 0 = some (.arr 4 [encBook x]) ∧ S.g 1 = some (.arr 4 [encBook x]))
    rw [hb] at g0 g1
    simp [AW_seq, AW_reg, AW_regD, AW_block, AW_cond, AW_skip, AW_exit, AW_ret, AW_scp, condR_true, condR_false, AThen_normal, AThen_ret, AThen_exit, ABlock_normal, ABlock_ret, ABlock_exit, AScope_normal, AScope_ret, AScope_exit, RetK_ret, RetK_normal, retAV_one, retAV_two, retAV_three, retAV_nil, RG_nil, RG_op, RG_guard, gdR_tt, gdR_ff, gdR_tf, gdR_ft, gdR_un, RG_call, callQ_clo, contK_ap, opR_some, RD_nil, RD_op0, RD_op1, opD0_some, opD1_some, RD_call, callQD_clo, RD_guard, gdD_tt, gdD_ff, gdD_tf, gdD_ft, gdD_un, psh_nil, psh_cons, Apt_nil, Apt_nilT, Apt_true, Apt_false, Dis_def, runT_val, runT_rd, runT_wr, runT_new, runT_mv, ex, put_some, put_none, ev_t, ev_c, argF_zero, argF_succ, set_g, set_n, cells_v, cells_sl, cells_agg, cells_own, cells_ptr, cells_clo, cells_eptr, cells_mp, putc, exBslice, lfill, exField, exIdxV, exIdxP, exBox, exAlloc, exLoad, exStore, exFieldA, exIdxA, exLen, exPick, exUn, exBeq, exMM, exSeq, seqGo, exExt, binV, intOp, subc, AV.solid, S0, encI, encB, c_s9b]
    refine AW_for 0 (fun i f S => S9S x f S ∧ f 6 = encI i) ⟨⟨?_, ?_, ?_, ?_⟩, ?_⟩ ?_
    · simp [put_some, e2]
    · simp [put_some, e3]
    · simpa using kept.1
    · simpa using kept.2
    · simp [put_some, encI]
    · rintro i f S hi ⟨⟨e2, e3, g0, g1⟩, e6⟩
      have kept := (⟨g0, g1⟩ : S.g 0 = some (.arr 4 [encBook x]) ∧ S.g 1 = some (.arr 4 [encBook x]))
      rw [hb] at g0 g1
      have : i = 0 := by omega
      subst this
      simp [AW_seq, AW_reg, AW_regD, AW_block, AW_cond, AW_skip, AW_exit, AW_ret, AW_scp, condR_true, condR_false, AThen_normal, AThen_ret, AThen_exit, ABlock_normal, ABlock_ret, ABlock_exit, AScope_normal, AScope_ret, AScope_exit, RetK_ret, RetK_normal, retAV_one, retAV_two, retAV_three, retAV_nil, RG_nil, RG_op, RG_guard, gdR_tt, gdR_ff, gdR_tf, gdR_ft, gdR_un, RG_call, callQ_clo, contK_ap, opR_some, RD_nil, RD_op0, RD_op1, opD0_some, opD1_some, RD_call, callQD_clo, RD_guard, gdD_tt, gdD_ff, gdD_tf, gdD_ft, gdD_un, psh_nil, psh_cons, Apt_nil, Apt_nilT, Apt_true, Apt_false, Dis_def, runT_val, runT_rd, runT_wr, runT_new, runT_mv, ex, put_some, put_none, ev_t, ev_c, argF_zero, argF_succ, set_g, set_n, cells_v, cells_sl, cells_agg, cells_own, cells_ptr, cells_clo, cells_eptr, cells_mp, putc, exBslice, lfill, exField, exIdxV, exIdxP, exBox, exAlloc, exLoad, exStore, exFieldA, exIdxA, exLen, exPick, exUn, exBeq, exMM, exSeq, seqGo, exExt, binV, intOp, subc, AV.solid, S0, encI, encB, e2, e3, e6, g0, g1]
      refine s9c_loop (x := x) g.u.1 ⟨⟨?_, ?_, ?_, ?_⟩, ?_⟩ (fun f S h => ?_)
      · simp [put_some, e2]
      · simp [put_some, e3]
      · simpa using kept.1
      · simpa using kept.2
      · simp [put_some, encI]
      · simp [AW_seq, AW_reg, AW_regD, AW_block, AW_cond, AW_skip, AW_exit, AW_ret, AW_scp, condR_true, condR_false, AThen_normal, AThen_ret, AThen_exit, ABlock_normal, ABlock_ret, ABlock_exit, AScope_normal, AScope_ret, AScope_exit, RetK_ret, RetK_normal, retAV_one, retAV_two, retAV_three, retAV_nil, RG_nil, RG_op, RG_guard, gdR_tt, gdR_ff, gdR_tf, gdR_ft, gdR_un, RG_call, callQ_clo, contK_ap, opR_some, RD_nil, RD_op0, RD_op1, opD0_some, opD1_some, RD_call, callQD_clo, RD_guard, gdD_tt, gdD_ff, gdD_tf, gdD_ft, gdD_un, psh_nil, psh_cons, Apt_nil, Apt_nilT, Apt_true, Apt_false, Dis_def, runT_val, runT_rd, runT_wr, runT_new, runT_mv, ex, put_some, put_none, ev_t, ev_c, argF_zero, argF_succ, set_g, set_n, cells_v, cells_sl, cells_agg, cells_own, cells_ptr, cells_clo, cells_eptr, cells_mp, putc, exBslice, lfill, exField, exIdxV, exIdxP, exBox, exAlloc, exLoad, exStore, exFieldA, exIdxA, exLen, exPick, exUn, exBeq, exMM, exSeq, seqGo, exExt, binV, intOp, subc, AV.solid, S0, encI, encB]
        exact FzK_B true _
end Go.Rf

