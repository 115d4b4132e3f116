import Derived.Test.YtfmmdlockfbfmaaRfR14
import Derived.Test.YtfmmdlockfbfmaaRfCat
/- Own work: a book without a rule; VerdictWithout's and VerdictLast's walks. -/
set_option linter.unusedVariables false
set_option linter.unusedSimpArgs false
namespace Go.Rf
open Go.RowKit

def without (x : Bk) (i : Int) : Bk := if 0 ≤ i ∧ i < x.rules.length then { x with rules := x.rules.take i.toNat ++ x.rules.drop (i.toNat + 1) } else x
/-! ### VerdictWithout -/
structure VwS (x : Bk) (l : List Int) (k : Nat) (b8 : Nat) (f : AF) (S : St) : Prop where
  e1 : f 1 = encIs l
  e3 : f 3 = .ptr 0 0 0
  e7 : f 7 = encI k
  e8 : f 8 = .ptr b8 0 0
  g0 : S.g 0 = some (.arr 4 [encBk x])
  g8 : S.g b8 = some (.arr 4 [encBk (without x k)])
end Go.Rf


/- Own work: VerdictLast's walk. -/
set_option linter.unusedVariables false
set_option linter.unusedSimpArgs false
namespace Go.Rf
open Go.RowKit

/-- What is built for the new rule. -/
def newA (c : Bool) : AV := .agg [encI 0, encB c, encI 1, .sl true [], .sl true [], .sl true [], encI 1, .sl true [], .sl true [], .sl true [], encI 0]
def lastA (x : Bk) (rid : Nat) : AV := .agg [x.vars, .own rid 0 (x.rules.length + 1), x.allows, x.used]
theorem CallD.look {P : Program} {f : FuncId} {args args' : List AV} {r : AV} {S : St} {F : List Nat} (h : PureC P f args' r) (hz : FzL (only F S.g) args args') (hr : Plain r) : CallD P f args S F r := ⟨args', h, hz.1, hz.2, .inl hr⟩
structure VlS (x : Bk) (l : List Int) (c : Bool) (b8 rid : Nat) (f : AF) (S : St) : Prop where
  e1 : f 1 = encIs l
  e2 : f 2 = encB c
  e3 : f 3 = .ptr 0 0 0
  e8 : f 8 = .ptr b8 0 0
  g0 : S.g 0 = some (.arr 4 [encBk x])
  g8 : S.g b8 = some (.arr 4 [lastA x rid])
  gr : S.g rid = some (.arr 11 (x.rules.map encRul ++ [newA c]))
end Go.Rf


/- Own work: a book without rules is the same as itself. -/
set_option linter.unusedVariables false
set_option linter.unusedSimpArgs false
namespace Go.Rf
open Go.RowKit

def c_caesuraref08_Same (f_caesuraref01_Ranges f_caesuraref01_Ints f_caesuraref08_Same : FuncId) : AC :=
  (.seq (.reg none [
   ⟨(some 2), .box 4 (.t 0), none, none⟩,
   ⟨(some 3), .box 4 (.t 1), none, none⟩,
   ⟨(some 4), .mv (.c (.v (.bool false))), none, none⟩])
  (.seq (.seq (.reg none [
   ⟨(some 6), .fieldA 0 (.t 2), none, none⟩,
   ⟨(some 7), .load none (.t 6), none, none⟩,
   ⟨(some 8), .fieldA 0 (.t 3), none, none⟩,
   ⟨(some 9), .load none (.t 8), none, none⟩,
   ⟨(some 10), .bin .neq (.t 7) (.t 9), none, none⟩,
   ⟨(some 11), .mv (.t 10), none, none⟩,
   ⟨(some 12), .fieldA 1 (.t 2), (some (11, false)), none⟩,
   ⟨(some 13), .load none (.t 12), (some (11, false)), none⟩,
   ⟨(some 14), .fieldA 1 (.t 3), (some (11, false)), none⟩,
   ⟨(some 15), .load none (.t 14), (some (11, false)), none⟩,
   ⟨(some 16), .mv (.c .junk), (some (11, false)), (some ((.c (.clo f_caesuraref01_Ranges [] [])), [(.t 13), (.t 15)]))⟩,
   ⟨(some 17), .un .not (.t 16), (some (11, false)), none⟩,
   ⟨(some 18), .pick (.t 11) (.c (.v (.bool true))) (.t 17), none, none⟩,
   ⟨(some 19), .mv (.t 18), none, none⟩,
   ⟨(some 20), .fieldA 2 (.t 2), (some (19, false)), none⟩,
   ⟨(some 21), .load none (.t 20), (some (19, false)), none⟩,
   ⟨(some 22), .fieldA 2 (.t 3), (some (19, false)), none⟩,
   ⟨(some 23), .load none (.t 22), (some (19, false)), none⟩,
   ⟨(some 24), .mv (.c .junk), (some (19, false)), (some ((.c (.clo f_caesuraref01_Ints [] [])), [(.t 21), (.t 23)]))⟩,
   ⟨(some 25), .un .not (.t 24), (some (19, false)), none⟩,
   ⟨(some 26), .pick (.t 19) (.c (.v (.bool true))) (.t 25), none, none⟩,
   ⟨(some 27), .mv (.t 26), none, none⟩,
   ⟨(some 28), .fieldA 3 (.t 2), (some (27, false)), none⟩,
   ⟨(some 29), .load none (.t 28), (some (27, false)), none⟩,
   ⟨(some 30), .len (.t 29), (some (27, false)), none⟩,
   ⟨(some 31), .fieldA 3 (.t 3), (some (27, false)), none⟩,
   ⟨(some 32), .load none (.t 31), (some (27, false)), none⟩,
   ⟨(some 33), .len (.t 32), (some (27, false)), none⟩,
   ⟨(some 34), .bin .neq (.t 30) (.t 33), (some (27, false)), none⟩,
   ⟨(some 35), .pick (.t 27) (.c (.v (.bool true))) (.t 34), none, none⟩])
  (.cond (.t 35) (.seq (.reg none [
    ⟨(some 4), .mv (.c (.v (.bool false))), none, none⟩])
   .ret) .skip))
  (.seq (.seq (.reg none [
   ⟨(some 5), .mv (.c (.v (.int .i64 0))), none, none⟩])
  (.block 0 (.loop (.seq (.seq (.reg none [
     ⟨(some 36), .mv (.t 5), none, none⟩,
     ⟨(some 37), .fieldA 3 (.t 2), none, none⟩,
     ⟨(some 38), .load none (.t 37), none, none⟩,
     ⟨(some 39), .len (.t 38), none, none⟩,
     ⟨(some 40), .bin .lss (.t 36) (.t 39), none, none⟩])
    (.cond (.t 40) .skip (.exit 0)))
    (.seq (.block 1 (.seq (.reg (some []) [
      ⟨(some 43), .fieldA 3 (.t 2), none, none⟩,
      ⟨(some 44), .load none (.t 43), none, none⟩,
      ⟨(some 45), .mv (.t 5), none, none⟩,
      ⟨(some 46), .idxA 4 (.t 44) (.t 45), none, none⟩,
      ⟨(some 47), .load (some 4) (.t 46), none, none⟩,
      ⟨(some 48), .fieldA 3 (.t 3), none, none⟩,
      ⟨(some 49), .load none (.t 48), none, none⟩,
      ⟨(some 50), .mv (.t 5), none, none⟩,
      ⟨(some 51), .idxA 4 (.t 49) (.t 50), none, none⟩,
      ⟨(some 52), .load (some 4) (.t 51), none, none⟩,
      ⟨(some 53), .mv (.c .junk), none, (some ((.c (.clo f_caesuraref08_Same [] [])), [(.t 47), (.t 52)]))⟩,
      ⟨(some 54), .un .not (.t 53), none, none⟩])
     (.cond (.t 54) (.seq (.reg none [
       ⟨(some 4), .mv (.c (.v (.bool false))), none, none⟩])
      .ret) .skip)))
    (.reg none [
     ⟨(some 41), .mv (.t 5), none, none⟩,
     ⟨(some 42), .bin .add (.t 41) (.c (.v (.int .i64 1))), none, none⟩,
     ⟨(some 5), .mv (.t 42), none, none⟩]))))))
  (.seq (.reg none [
   ⟨(some 4), .mv (.c (.v (.bool true))), none, none⟩])
  .ret))))
/- No list of it is long, its ranges' neither. -/
mutual
def PatS2 : Pat → Prop
  | .mk k s g ks => s.length ≤ 100000 ∧ g.length ≤ 100000 ∧ ks.length ≤ 100000 ∧ PatsS2 ks
def PatsS2 : List Pat → Prop
  | [] => True
  | p :: ps => PatS2 p ∧ PatsS2 ps
end
def S8I (p : Pat) (i : Nat) (f : AF) (S : St) : Prop := f 2 = .ptr 0 0 0 ∧ f 3 = .ptr 1 0 0 ∧ f 5 = encI i ∧ S.g 0 = some (.arr 4 [encPat p]) ∧ S.g 1 = some (.arr 4 [encPat p])
theorem Same08_refl {P : Program} {fr fi fs : FuncId} (p : Pat) (hk : Len p.kids) (hr : PureC P fr [encRs p.set, encRs p.set] (encB true)) (hi : PureC P fi [encIs p.signs, encIs p.signs] (encB true)) (hs : ∀ q ∈ p.kids, PureC P fs [encPat q, encPat q] (encB true)) :
    AW P (c_caesuraref08_Same fr fi fs) (RetK [4] (FzK (encB true))) (argF [encPat p, encPat p]) S0 := by
  obtain ⟨k, s, g, ks⟩ := p
  simp only [Pat.kids, Pat.set, Pat.signs, Len] at hk hr hi hs
  have hcells : encPat (.mk k s g ks) = .agg [encI k, encRs s, encIs g, .sl false (ks.map encPat)] := encPat_eq k s g ks
  have c1 := cl_cons (closed_Rs s) (cl_cons (closed_Rs s) cl_nil)
  have c2 := cl_cons (closed_Is g) (cl_cons (closed_Is g) cl_nil)
  have n1 : (k != k) = false := by simp
  have n2 : ((ks.length : Int) != (ks.length : Int)) = false := by simp
  simp only [encRs, encIs] at hr hi c1 c2
  simp [AW_seq, AW_reg, AW_regD, AW_block, AW_cond, AW_skip, AW_exit, AW_ret, AW_scp, condR_true, condR_false, AThen_normal, AThen_ret, AThen_exit, ABlock_normal, ABlock_ret, ABlock_exit, AScope_normal, AScope_ret, AScope_exit, RetK_ret, RetK_normal, retAV_one, retAV_two, retAV_three, retAV_nil, RG_nil, RG_op, RG_guard, gdR_tt, gdR_ff, gdR_tf, gdR_ft, gdR_un, RG_call, callQ_clo, contK_ap, opR_some, RD_nil, RD_op0, RD_op1, opD0_some, opD1_some, RD_call, callQD_clo, RD_guard, gdD_tt, gdD_ff, gdD_tf, gdD_ft, gdD_un, psh_nil, psh_cons, Apt_nil, Apt_nilT, Apt_true, Apt_false, Dis_def, runT_val, runT_rd, runT_wr, runT_new, runT_mv, ex, put_some, put_none, ev_t, ev_c, argF_zero, argF_succ, set_g, set_n, cells_v, cells_sl, cells_agg, cells_own, cells_ptr, cells_clo, cells_eptr, cells_mp, putc, exBslice, lfill, exField, exIdxV, exIdxP, exBox, exAlloc, exLoad, exStore, exFieldA, exIdxA, exLen, exPick, exUn, exBeq, exMM, exSeq, seqGo, exExt, binV, intOp, subc, AV.solid, S0, encI, encB, c_caesuraref08_Same, hcells, encRs, encIs, n1]
  refine CallR.pure hr c1 (closed_B _) ?_
  simp [AW_seq, AW_reg, AW_regD, AW_block, AW_cond, AW_skip, AW_exit, AW_ret, AW_scp, condR_true, condR_false, AThen_normal, AThen_ret, AThen_exit, ABlock_normal, ABlock_ret, ABlock_exit, AScope_normal, AScope_ret, AScope_exit, RetK_ret, RetK_normal, retAV_one, retAV_two, retAV_three, retAV_nil, RG_nil, RG_op, RG_guard, gdR_tt, gdR_ff, gdR_tf, gdR_ft, gdR_un, RG_call, callQ_clo, contK_ap, opR_some, RD_nil, RD_op0, RD_op1, opD0_some, opD1_some, RD_call, callQD_clo, RD_guard, gdD_tt, gdD_ff, gdD_tf, gdD_ft, gdD_un, psh_nil, psh_cons, Apt_nil, Apt_nilT, Apt_true, Apt_false, Dis_def, runT_val, runT_rd, runT_wr, runT_new, runT_mv, ex, put_some, put_none, ev_t, ev_c, argF_zero, argF_succ, set_g, set_n, cells_v, cells_sl, cells_agg, cells_own, cells_ptr, cells_clo, cells_eptr, cells_mp, putc, exBslice, lfill, exField, exIdxV, exIdxP, exBox, exAlloc, exLoad, exStore, exFieldA, exIdxA, exLen, exPick, exUn, exBeq, exMM, exSeq, seqGo, exExt, binV, intOp, subc, AV.solid, S0, encI, encB]
  refine CallR.pure hi c2 (closed_B _) ?_
  simp [AW_seq, AW_reg, AW_regD, AW_block, AW_cond, AW_skip, AW_exit, AW_ret, AW_scp, condR_true, condR_false, AThen_normal, AThen_ret, AThen_exit, ABlock_normal, ABlock_ret, ABlock_exit, AScope_normal, AScope_ret, AScope_exit, RetK_ret, RetK_normal, retAV_one, retAV_two, retAV_three, retAV_nil, RG_nil, RG_op, RG_guard, gdR_tt, gdR_ff, gdR_tf, gdR_ft, gdR_un, RG_call, callQ_clo, contK_ap, opR_some, RD_nil, RD_op0, RD_op1, opD0_some, opD1_some, RD_call, callQD_clo, RD_guard, gdD_tt, gdD_ff, gdD_tf, gdD_ft, gdD_un, psh_nil, psh_cons, Apt_nil, Apt_nilT, Apt_true, Apt_false, Dis_def, runT_val, runT_rd, runT_wr, runT_new, runT_mv, ex, put_some, put_none, ev_t, ev_c, argF_zero, argF_succ, set_g, set_n, cells_v, cells_sl, cells_agg, cells_own, cells_ptr, cells_clo, cells_eptr, cells_mp, putc, exBslice, lfill, exField, exIdxV, exIdxP, exBox, exAlloc, exLoad, exStore, exFieldA, exIdxA, exLen, exPick, exUn, exBeq, exMM, exSeq, seqGo, exExt, binV, intOp, subc, AV.solid, S0, encI, encB, n2]
  refine AW_for ks.length (S8I (.mk k s g ks)) ⟨?_, ?_, ?_, ?_, ?_⟩ ?_
  · simp [put_some]
  · simp [put_some]
  · simp [put_some, encI]
  · simp [set_g, hcells, encI, encRs, encIs]
  · simp [set_g, hcells, encI, encRs, encIs]
  · rintro i f S hi ⟨e2, e3, e5, g0, g1⟩
    have kept := (⟨g0, g1⟩ : S.g 0 = some (.arr 4 [encPat (.mk k s g ks)]) ∧ S.g 1 = some (.arr 4 [encPat (.mk k s g ks)]))
    rw [hcells] at g0 g1
    by_cases hlt : i < ks.length
    · have hg : ks[i]? = some ks[i] := List.getElem?_eq_getElem hlt
      have hq := hs _ (List.getElem_mem hlt)
      have hc := closed_Pat ks[i]
      obtain ⟨x1, x2, x3, x4, hx⟩ := encPat_4 ks[i]
      rw [hx] at hq hc
      have d1 : ∀ n g, CallD P fs _ ⟨n, g⟩ [] _ := fun n g => CallD.kl hq (cl_cons hc (cl_cons hc cl_nil)) (closed_B true)
      simp [AW_seq, AW_reg, AW_regD, AW_block, AW_cond, AW_skip, AW_exit, AW_ret, AW_scp, condR_true, condR_false, AThen_normal, AThen_ret, AThen_exit, ABlock_normal, ABlock_ret, ABlock_exit, AScope_normal, AScope_ret, AScope_exit, RetK_ret, RetK_normal, retAV_one, retAV_two, retAV_three, retAV_nil, RG_nil, RG_op, RG_guard, gdR_tt, gdR_ff, gdR_tf, gdR_ft, gdR_un, RG_call, callQ_clo, contK_ap, opR_some, RD_nil, RD_op0, RD_op1, opD0_some, opD1_some, RD_call, callQD_clo, RD_guard, gdD_tt, gdD_ff, gdD_tf, gdD_ft, gdD_un, psh_nil, psh_cons, Apt_nil, Apt_nilT, Apt_true, Apt_false, Dis_def, runT_val, runT_rd, runT_wr, runT_new, runT_mv, ex, put_some, put_none, ev_t, ev_c, argF_zero, argF_succ, set_g, set_n, cells_v, cells_sl, cells_agg, cells_own, cells_ptr, cells_clo, cells_eptr, cells_mp, putc, exBslice, lfill, exField, exIdxV, exIdxP, exBox, exAlloc, exLoad, exStore, exFieldA, exIdxA, exLen, exPick, exUn, exBeq, exMM, exSeq, seqGo, exExt, binV, intOp, subc, AV.solid, S0, encI, encB, e2, e3, e5, g0, g1, hlt, hg, hx]
      refine ⟨encB true, ⟨[], d1 _ _⟩, ?_⟩
      simp [AW_seq, AW_reg, AW_regD, AW_block, AW_cond, AW_skip, AW_exit, AW_ret, AW_scp, condR_true, condR_false, AThen_normal, AThen_ret, AThen_exit, ABlock_normal, ABlock_ret, ABlock_exit, AScope_normal, AScope_ret, AScope_exit, RetK_ret, RetK_normal, retAV_one, retAV_two, retAV_three, retAV_nil, RG_nil, RG_op, RG_guard, gdR_tt, gdR_ff, gdR_tf, gdR_ft, gdR_un, RG_call, callQ_clo, contK_ap, opR_some, RD_nil, RD_op0, RD_op1, opD0_some, opD1_some, RD_call, callQD_clo, RD_guard, gdD_tt, gdD_ff, gdD_tf, gdD_ft, gdD_un, psh_nil, psh_cons, Apt_nil, Apt_nilT, Apt_true, Apt_false, Dis_def, runT_val, runT_rd, runT_wr, runT_new, runT_mv, ex, put_some, put_none, ev_t, ev_c, argF_zero, argF_succ, set_g, set_n, cells_v, cells_sl, cells_agg, cells_own, cells_ptr, cells_clo, cells_eptr, cells_mp, putc, exBslice, lfill, exField, exIdxV, exIdxP, exBox, exAlloc, exLoad, exStore, exFieldA, exIdxA, exLen, exPick, exUn, exBeq, exMM, exSeq, seqGo, exExt, binV, intOp, subc, AV.solid, S0, encI, encB, e2, e3, e5, g0, g1, hlt, hg, hx]
      rw [wrap_in _ (by omega)]
      refine ⟨hlt, ?_, ?_, ?_, kept.1, kept.2⟩ <;> simp [put_some, e2, e3, encI]
    · simp [AW_seq, AW_reg, AW_regD, AW_block, AW_cond, AW_skip, AW_exit, AW_ret, AW_scp, condR_true, condR_false, AThen_normal, AThen_ret, AThen_exit, ABlock_normal, ABlock_ret, ABlock_exit, AScope_normal, AScope_ret, AScope_exit, RetK_ret, RetK_normal, retAV_one, retAV_two, retAV_three, retAV_nil, RG_nil, RG_op, RG_guard, gdR_tt, gdR_ff, gdR_tf, gdR_ft, gdR_un, RG_call, callQ_clo, contK_ap, opR_some, RD_nil, RD_op0, RD_op1, opD0_some, opD1_some, RD_call, callQD_clo, RD_guard, gdD_tt, gdD_ff, gdD_tf, gdD_ft, gdD_un, psh_nil, psh_cons, Apt_nil, Apt_nilT, Apt_true, Apt_false, Dis_def, runT_val, runT_rd, runT_wr, runT_new, runT_mv, ex, put_some, put_none, ev_t, ev_c, argF_zero, argF_succ, set_g, set_n, cells_v, cells_sl, cells_agg, cells_own, cells_ptr, cells_clo, cells_eptr, cells_mp, putc, exBslice, lfill, exField, exIdxV, exIdxP, exBox, exAlloc, exLoad, exStore, exFieldA, exIdxA, exLen, exPick, exUn, exBeq, exMM, exSeq, seqGo, exExt, binV, intOp, subc, AV.solid, S0, encI, encB, e2, e3, e5, g0, g1, hlt]
      exact FzK_B true _
mutual
theorem same08_ok {P : Program} (hm : P.follows .mixedOrders = true) {fr fi fs : FuncId} (hI : Is P fs (c_caesuraref08_Same fr fi fs) [4] 2) (hr : ∀ a : List Rg, a.length ≤ 100000 → PureC P fr [encRs a, encRs a] (encB true)) (hi : ∀ a : List Int, Len a → PureC P fi [encIs a, encIs a] (encB true)) :
    ∀ p : Pat, PatS2 p → PureC P fs [encPat p, encPat p] (encB true)
  | .mk k s g ks, h => by
    simp only [PatS2] at h
    exact hI.pure hm rfl (Same08_refl (.mk k s g ks) (by simp only [Pat.kids]; unfold Len; omega) (hr _ h.1) (hi _ (by simp only [Pat.signs]; unfold Len; omega)) (same08s_ok hm hI hr hi ks h.2.2.2))
theorem same08s_ok {P : Program} (hm : P.follows .mixedOrders = true) {fr fi fs : FuncId} (hI : Is P fs (c_caesuraref08_Same fr fi fs) [4] 2) (hr : ∀ a : List Rg, a.length ≤ 100000 → PureC P fr [encRs a, encRs a] (encB true)) (hi : ∀ a : List Int, Len a → PureC P fi [encIs a, encIs a] (encB true)) :
    ∀ ks : List Pat, PatsS2 ks → ∀ q ∈ ks, PureC P fs [encPat q, encPat q] (encB true)
  | [], _, q, hq => by simp at hq
  | p :: ps, h, q, hq => by
    simp only [PatsS2] at h
    rcases List.mem_cons.mp hq with e | hq
    · rw [e]; exact same08_ok hm hI hr hi p h.1
    · exact same08s_ok hm hI hr hi ps h.2 q hq
end
structure S9S (x : Book) (f : AF) (S : St) : Prop where
  e2 : f 2 = .ptr 0 0 0
  e3 : f 3 = .ptr 1 0 0
  g0 : S.g 0 = some (.arr 4 [encBook x])
  g1 : S.g 1 = some (.arr 4 [encBook x])
end Go.Rf

