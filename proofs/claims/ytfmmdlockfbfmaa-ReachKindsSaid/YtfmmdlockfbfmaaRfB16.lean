import Derived.Test.YtfmmdlockfbfmaaRfVec
import Derived.Test.YtfmmdlockfbfmaaRfCell
import Derived.Test.YtfmmdlockfbfmaaRfKl
set_option linter.unusedVariables false
set_option linter.unusedSimpArgs false
namespace Go.Rf
def c_caesuraref01_Ranges : AC :=
  (.seq (.reg none [
   ⟨(some 4), .mv (.c (.v (.bool false))), none, none⟩])
  (.seq (.seq (.reg none [
   ⟨(some 6), .mv (.t 0), none, none⟩,
   ⟨(some 7), .len (.t 6), none, none⟩,
   ⟨(some 8), .mv (.t 1), none, none⟩,
   ⟨(some 9), .len (.t 8), none, none⟩,
   ⟨(some 10), .bin .neq (.t 7) (.t 9), none, none⟩])
  (.cond (.t 10) (.seq (.reg none [
    ⟨(some 4), .mv (.c (.v (.bool false))), none, none⟩])
   .ret) .skip))
  (.seq (.seq (.reg none [
   ⟨(some 5), .mv (.c (.v (.int .i64 0))), none, none⟩])
  (.block 0 (.loop (.seq (.seq (.reg none [
     ⟨(some 11), .mv (.t 5), none, none⟩,
     ⟨(some 12), .mv (.t 0), none, none⟩,
     ⟨(some 13), .len (.t 12), none, none⟩,
     ⟨(some 14), .bin .lss (.t 11) (.t 13), none, none⟩])
    (.cond (.t 14) .skip (.exit 0)))
    (.seq (.block 1 (.seq (.reg (some []) [
      ⟨(some 17), .mv (.t 0), none, none⟩,
      ⟨(some 18), .mv (.t 5), none, none⟩,
      ⟨(some 19), .idxA 2 (.t 17) (.t 18), none, none⟩,
      ⟨(some 20), .load (some 2) (.t 19), none, none⟩,
      ⟨(some 21), .mv (.t 1), none, none⟩,
      ⟨(some 22), .mv (.t 5), none, none⟩,
      ⟨(some 23), .idxA 2 (.t 21) (.t 22), none, none⟩,
      ⟨(some 24), .load (some 2) (.t 23), none, none⟩,
      ⟨(some 25), .seq true [0, 1] (.t 20) (.t 24), none, none⟩])
     (.cond (.t 25) (.seq (.reg none [
       ⟨(some 4), .mv (.c (.v (.bool false))), none, none⟩])
      .ret) .skip)))
    (.reg none [
     ⟨(some 15), .mv (.t 5), none, none⟩,
     ⟨(some 16), .bin .add (.t 15) (.c (.v (.int .i64 1))), none, none⟩,
     ⟨(some 5), .mv (.t 16), none, none⟩]))))))
  (.seq (.reg none [
   ⟨(some 4), .mv (.c (.v (.bool true))), none, none⟩])
  .ret))))
/-! ### ranges -/
structure Rg where
  low : Int
  high : Int
deriving DecidableEq
def encR (r : Rg) : AV := .agg [encI r.low, encI r.high]
def encRs (l : List Rg) : AV := .sl false (l.map encR)
def encRss (l : List (List Rg)) : AV := .sl false (l.map encRs)
theorem closed_R (r : Rg) : Closed (encR r) := .agg _ (by
  intro y hy
  simp only [List.mem_cons, List.not_mem_nil, or_false] at hy
  rcases hy with rfl | rfl <;> exact closed_I _)
theorem closed_Rs (l : List Rg) : Closed (encRs l) := closed_map closed_R l
def inR (r : Rg) (c : Int) : Bool := decide (r.low ≤ c) && decide (c ≤ r.high)
def hasIn (l : List Rg) (c : Int) : Bool := l.any fun r => inR r c
def hasR (l : List Rg) (c : Int) : Bool := decide (0 ≤ c) && decide (c ≤ 1114111) && decide (l.length ≤ 400) && hasIn l c
def raI (a b : List Rg) (m : Nat) (f : AF) (S : St) : Prop :=
  ∃ i, i ≤ a.length ∧ m = a.length - i ∧ f 0 = encRs a ∧ f 1 = encRs b ∧ f 5 = encI i ∧ ∀ k (h1 : k < a.length) (h2 : k < b.length), k < i → a[k] = b[k]
theorem caesuraref01_Ranges_body {P : Program} (a b : List Rg) (ha : a.length ≤ 100000) : AW P c_caesuraref01_Ranges (RetK [4] (FzK (encB (decide (a = b))))) (argF [encRs a, encRs b]) S0 := by
  by_cases hl : a.length = b.length
  · have hc : ((a.length : Int) != b.length) = false := by simp [hl]
    simp [AW_seq, AW_reg, AW_regD, AW_block, AW_cond, AW_skip, AW_exit, AW_ret, AW_scp, condR_true, condR_false, AThen_normal, AThen_ret, AThen_exit, ABlock_normal, ABlock_ret, ABlock_exit, AScope_normal, AScope_ret, AScope_exit, RetK_ret, RetK_normal, retAV_one, retAV_two, retAV_three, retAV_nil, RG_nil, RG_op, RG_guard, gdR_tt, gdR_ff, gdR_tf, gdR_ft, gdR_un, RG_call, callQ_clo, contK_ap, opR_some, RD_nil, RD_op0, RD_op1, opD0_some, opD1_some, RD_call, callQD_clo, RD_guard, gdD_tt, gdD_ff, gdD_tf, gdD_ft, gdD_un, psh_nil, psh_cons, Apt_nil, Apt_nilT, Apt_true, Apt_false, Dis_def, runT_val, runT_rd, runT_wr, runT_new, runT_mv, ex, put_some, put_none, ev_t, ev_c, argF_zero, argF_succ, set_g, set_n, cells_v, cells_sl, cells_agg, cells_own, cells_ptr, cells_clo, cells_eptr, cells_mp, putc, exBslice, lfill, exField, exIdxV, exIdxP, exBox, exAlloc, exLoad, exStore, exFieldA, exIdxA, exLen, exPick, exUn, exBeq, exMM, exSeq, seqGo, exExt, binV, intOp, subc, AV.solid, S0, encI, encB, c_caesuraref01_Ranges, encRs, hc]
    refine AW_loop (raI a b) a.length ?_ ?_
    · refine ⟨0, by omega, rfl, ?_, ?_, ?_, fun k _ _ hk => by omega⟩ <;> simp [put_some, argF_zero, argF_succ, encRs, encI]
    · rintro m f S ⟨i, hi, rfl, e0, e1, e5, hno⟩
      by_cases hlt : i < a.length
      · have hltb : i < b.length := by omega
        have hI : (i : Int) < a.length := by omega
        have hIb : (i : Int) < b.length := by omega
        have hga : a[i]? = some a[i] := List.getElem?_eq_getElem hlt
        have hgb : b[i]? = some b[i] := List.getElem?_eq_getElem hltb
        have hw : IntKind.i64.wrap ((i : Int) + 1) = (i : Int) + 1 := wrap_in _ (by omega)
        have next : ∀ {f' : AF} {S' : St}, f' 0 = encRs a → f' 1 = encRs b → f' 5 = encI ((i : Int) + 1) → a[i] = b[i] → INext (raI a b) (a.length - i) f' S' := by
          intro f' S' q0 q1 q5 hz
          refine ⟨a.length - (i + 1), by omega, i + 1, by omega, rfl, q0, q1, by rw [q5]; simp [encI], fun k h1 h2 hk => ?_⟩
          by_cases hki : k = i
          · subst hki; exact hz
          · exact hno k h1 h2 (by omega)
        have hne : a[i] ≠ b[i] → a ≠ b := fun h e => h (by subst e; rfl)
        generalize hai : a[i] = x at *
        generalize hbi : b[i] = y at *
        obtain ⟨x1, x2⟩ := x
        obtain ⟨y1, y2⟩ := y
        by_cases k1 : x1 = y1 <;> by_cases k2 : x2 = y2
        · subst k1 k2
          simp [AW_seq, AW_reg, AW_regD, AW_block, AW_cond, AW_skip, AW_exit, AW_ret, AW_scp, condR_true, condR_false, AThen_normal, AThen_ret, AThen_exit, ABlock_normal, ABlock_ret, ABlock_exit, AScope_normal, AScope_ret, AScope_exit, RetK_ret, RetK_normal, retAV_one, retAV_two, retAV_three, retAV_nil, RG_nil, RG_op, RG_guard, gdR_tt, gdR_ff, gdR_tf, gdR_ft, gdR_un, RG_call, callQ_clo, contK_ap, opR_some, RD_nil, RD_op0, RD_op1, opD0_some, opD1_some, RD_call, callQD_clo, RD_guard, gdD_tt, gdD_ff, gdD_tf, gdD_ft, gdD_un, psh_nil, psh_cons, Apt_nil, Apt_nilT, Apt_true, Apt_false, Dis_def, runT_val, runT_rd, runT_wr, runT_new, runT_mv, ex, put_some, put_none, ev_t, ev_c, argF_zero, argF_succ, set_g, set_n, cells_v, cells_sl, cells_agg, cells_own, cells_ptr, cells_clo, cells_eptr, cells_mp, putc, exBslice, lfill, exField, exIdxV, exIdxP, exBox, exAlloc, exLoad, exStore, exFieldA, exIdxA, exLen, exPick, exUn, exBeq, exMM, exSeq, seqGo, exExt, binV, intOp, subc, AV.solid, S0, encI, encB, e0, e1, e5, hI, hIb, hlt, hltb, hga, hgb, hai, hbi, encRs, encR, hw]
          refine next ?_ ?_ ?_ rfl <;> simp [put_some, e0, e1, encRs, encI]
        all_goals
          have hd : decide (a = b) = false := decide_eq_false (hne (by intro e; injection e with e1 e2; first | exact k1 e1 | exact k2 e2))
          simp [AW_seq, AW_reg, AW_regD, AW_block, AW_cond, AW_skip, AW_exit, AW_ret, AW_scp, condR_true, condR_false, AThen_normal, AThen_ret, AThen_exit, ABlock_normal, ABlock_ret, ABlock_exit, AScope_normal, AScope_ret, AScope_exit, RetK_ret, RetK_normal, retAV_one, retAV_two, retAV_three, retAV_nil, RG_nil, RG_op, RG_guard, gdR_tt, gdR_ff, gdR_tf, gdR_ft, gdR_un, RG_call, callQ_clo, contK_ap, opR_some, RD_nil, RD_op0, RD_op1, opD0_some, opD1_some, RD_call, callQD_clo, RD_guard, gdD_tt, gdD_ff, gdD_tf, gdD_ft, gdD_un, psh_nil, psh_cons, Apt_nil, Apt_nilT, Apt_true, Apt_false, Dis_def, runT_val, runT_rd, runT_wr, runT_new, runT_mv, ex, put_some, put_none, ev_t, ev_c, argF_zero, argF_succ, set_g, set_n, cells_v, cells_sl, cells_agg, cells_own, cells_ptr, cells_clo, cells_eptr, cells_mp, putc, exBslice, lfill, exField, exIdxV, exIdxP, exBox, exAlloc, exLoad, exStore, exFieldA, exIdxA, exLen, exPick, exUn, exBeq, exMM, exSeq, seqGo, exExt, binV, intOp, subc, AV.solid, S0, encI, encB, e0, e1, e5, hI, hIb, hlt, hltb, hga, hgb, hai, hbi, encRs, encR, k1, k2, hd]
          exact FzK_B _ _
      · have hI : ¬ (i : Int) < a.length := by omega
        have hd : decide (a = b) = true := decide_eq_true (List.ext_getElem hl (fun k h1 h2 => hno k h1 h2 (by omega)))
        simp [AW_seq, AW_reg, AW_regD, AW_block, AW_cond, AW_skip, AW_exit, AW_ret, AW_scp, condR_true, condR_false, AThen_normal, AThen_ret, AThen_exit, ABlock_normal, ABlock_ret, ABlock_exit, AScope_normal, AScope_ret, AScope_exit, RetK_ret, RetK_normal, retAV_one, retAV_two, retAV_three, retAV_nil, RG_nil, RG_op, RG_guard, gdR_tt, gdR_ff, gdR_tf, gdR_ft, gdR_un, RG_call, callQ_clo, contK_ap, opR_some, RD_nil, RD_op0, RD_op1, opD0_some, opD1_some, RD_call, callQD_clo, RD_guard, gdD_tt, gdD_ff, gdD_tf, gdD_ft, gdD_un, psh_nil, psh_cons, Apt_nil, Apt_nilT, Apt_true, Apt_false, Dis_def, runT_val, runT_rd, runT_wr, runT_new, runT_mv, ex, put_some, put_none, ev_t, ev_c, argF_zero, argF_succ, set_g, set_n, cells_v, cells_sl, cells_agg, cells_own, cells_ptr, cells_clo, cells_eptr, cells_mp, putc, exBslice, lfill, exField, exIdxV, exIdxP, exBox, exAlloc, exLoad, exStore, exFieldA, exIdxA, exLen, exPick, exUn, exBeq, exMM, exSeq, seqGo, exExt, binV, intOp, subc, AV.solid, S0, encI, encB, e0, e1, e5, hI, hlt, encRs, hd]
        exact FzK_B _ _
  · have hc : ((a.length : Int) != b.length) = true := by simp; omega
    have hd : decide (a = b) = false := decide_eq_false (fun e => hl (by rw [e]))
    simp [AW_seq, AW_reg, AW_regD, AW_block, AW_cond, AW_skip, AW_exit, AW_ret, AW_scp, condR_true, condR_false, AThen_normal, AThen_ret, AThen_exit, ABlock_normal, ABlock_ret, ABlock_exit, AScope_normal, AScope_ret, AScope_exit, RetK_ret, RetK_normal, retAV_one, retAV_two, retAV_three, retAV_nil, RG_nil, RG_op, RG_guard, gdR_tt, gdR_ff, gdR_tf, gdR_ft, gdR_un, RG_call, callQ_clo, contK_ap, opR_some, RD_nil, RD_op0, RD_op1, opD0_some, opD1_some, RD_call, callQD_clo, RD_guard, gdD_tt, gdD_ff, gdD_tf, gdD_ft, gdD_un, psh_nil, psh_cons, Apt_nil, Apt_nilT, Apt_true, Apt_false, Dis_def, runT_val, runT_rd, runT_wr, runT_new, runT_mv, ex, put_some, put_none, ev_t, ev_c, argF_zero, argF_succ, set_g, set_n, cells_v, cells_sl, cells_agg, cells_own, cells_ptr, cells_clo, cells_eptr, cells_mp, putc, exBslice, lfill, exField, exIdxV, exIdxP, exBox, exAlloc, exLoad, exStore, exFieldA, exIdxA, exLen, exPick, exUn, exBeq, exMM, exSeq, seqGo, exExt, binV, intOp, subc, AV.solid, S0, encI, encB, c_caesuraref01_Ranges, encRs, hc, hd]
    exact FzK_B _ _
def putF : List Int → Int → List Int
  | [], n => [n]
  | x :: l, n => if x < n then x :: putF l n else if x = n then x :: l else n :: x :: l
/-! ### the edges -/
def Iv (g : Nat → Option Blk) (v : AV) (l : List Int) : Prop := (∃ t, v = .sl t (l.map encI)) ∨ Vec g v 1 (l.map encI)
theorem Iv.frame {g g' : Nat → Option Blk} {v : AV} {l : List Int} (h : Iv g v l) (hs : ∀ i ∈ v.ids, g' i = g i) : Iv g' v l := by
  rcases h with h | h
  · exact .inl h
  · exact .inr (h.frame hs)
theorem Iv.fz {g : Nat → Option Blk} {v : AV} {l : List Int} (h : Iv g v l) : Fz g v (encIs l) := by
  rcases h with ⟨t, rfl⟩ | h
  · exact .loose t _ (closed_map closed_I l)
  · exact h.fz closed_I
theorem Iv.only {g : Nat → Option Blk} {v : AV} {l : List Int} (h : Iv g v l) : Iv (only v.ids g) v l := h.frame (fun i hi => by rw [only_g, if_pos hi])
def edge1 (out : List Int) (r : Rg) : List Int := if 0 ≤ r.low ∧ r.low ≤ 1114111 then putF out r.low else out
def edge2 (out : List Int) (r : Rg) : List Int := if -1 ≤ r.high ∧ r.high < 1114111 then putF out (r.high + 1) else out
def edgeS (out : List Int) (l : List Rg) : List Int := if l.length ≤ 400 then l.foldl (fun o r => edge2 (edge1 o r) r) out else out
def edgesF (sets : List (List Rg)) : List Int := sets.foldl edgeS [0]
structure ER (sets : List (List Rg)) (i k c : Nat) (r : Rg) (cur : List Int) (f : AF) (S : St) : Prop where
  e0 : f 0 = encRss sets
  e4 : f 4 = encI i
  e5 : f 5 = encI k
  e6 : f 6 = .ptr c 0 0
  gc : S.g c = some (.arr 2 [encR r])
  v : Iv S.g (f 3) cur
  ids : ∀ x ∈ (f 3).ids, x < S.n ∧ x ≠ c
structure EB (sets : List (List Rg)) (i k : Nat) (cur : List Int) (f : AF) (S : St) : Prop where
  e0 : f 0 = encRss sets
  e4 : f 4 = encI i
  e5 : f 5 = encI k
  v : Iv S.g (f 3) cur
  ids : ∀ x ∈ (f 3).ids, x < S.n
end Go.Rf
