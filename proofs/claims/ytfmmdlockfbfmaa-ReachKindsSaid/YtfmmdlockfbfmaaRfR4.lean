import Derived.Test.YtfmmdlockfbfmaaRfR1
import Derived.Test.YtfmmdlockfbfmaaRfN1
import Derived.Test.YtfmmdlockfbfmaaRfSimpS
/- Own work: each place once. -/
set_option linter.unusedVariables false
set_option linter.unusedSimpArgs false
namespace Go.Rf
open Go.RowKit

def c_reach_once_1 : AC :=
  (.seq (.reg none [
   ⟨(some 4), .load none (.t 1), none, none⟩,
   ⟨(some 5), .mv (.t 0), none, none⟩,
   ⟨(some 6), .look (.int .i64) (.v (.bool false)) false (.t 4) (.t 5), none, none⟩,
   ⟨(some 7), .un .not (.t 6), none, none⟩])
  (.cond (.t 7) (.seq (.reg none [
    ⟨(some 8), .load none (.t 1), none, none⟩,
    ⟨(some 9), .mv (.t 0), none, none⟩,
    ⟨none, .mset (.int .i64) (.t 8) (.t 9) (.c (.v (.bool true))), none, none⟩])
   (.reg none [
    ⟨(some 10), .load none (.t 2), none, none⟩,
    ⟨(some 11), .mv (.t 0), none, none⟩,
    ⟨(some 12), .bslice 1 1 (.v (.int .i64 0)) [(0, (.t 11))], none, none⟩,
    ⟨(some 13), .app 1 8 (.t 10) (.t 12), none, none⟩,
    ⟨none, .store 1 (.t 2) (.t 13), none, none⟩])) .skip))
def c_reach_once (f_reach_once_1 : FuncId) : AC :=
  (.seq (.reg none [
   ⟨(some 2), .mv (.c (.sl true [])), none, none⟩])
  (.seq (.reg none [
   ⟨(some 5), .mmk, none, none⟩,
   ⟨(some 3), .alloc (.v (.map none)) 1, none, none⟩,
   ⟨none, .store 1 (.t 3) (.t 5), none, none⟩])
  (.seq (.reg none [
   ⟨(some 4), .alloc (.sl true []) 1, none, none⟩])
  (.seq (.reg none [
   ⟨(some 6), .mv (.t 0), none, none⟩,
   ⟨(some 7), .mkf f_reach_once_1 [] [(.t 3), (.t 4)], none, none⟩,
   ⟨(some 8), .mv (.c .junk), none, (some ((.t 6), [(.t 7)]))⟩])
  (.seq (.reg none [
   ⟨(some 9), .load none (.t 4), none, none⟩,
   ⟨(some 2), .mv (.t 9), none, none⟩])
  .ret)))))
theorem Vec.cel {g : Nat → Option Blk} {v : AV} {es : Nat} {xs : List AV} (h : Vec g v es xs) : v.cells = [v] ∧ v.solid = true := by
  rcases h with ⟨rfl, _⟩ | ⟨_, _, _, rfl, _⟩ <;> exact ⟨rfl, rfl⟩
def mKV (x : Int) : AV × AV := (encI x, encB true)
/-- What once keeps: a map, and a list. -/
def J1 (a b c : Nat) (L : List Int) (A : List Nat) (S : St) : Prop :=
  ∃ v, A = a :: b :: c :: v.ids ∧ S.g a = some (.map ((ddp L).map mKV)) ∧ S.g b = some (.arr 1 [.mp a]) ∧ S.g c = some (.arr 1 [v]) ∧ (Vec S.g v 1 ((ddp L).map encI) ∧ (ddp L = [] → v = .sl true [])) ∧ a < S.n ∧ b < S.n ∧ c < S.n ∧ a ≠ b ∧ a ≠ c ∧ b ≠ c ∧ (∀ i ∈ v.ids, i < S.n ∧ i ≠ a ∧ i ≠ b ∧ i ≠ c)
theorem keyEq_m (x y : Int) : keyEq (encI x) (mKV y).1 = (x == y) := rfl
theorem findE_mem (x : Int) : ∀ (l : List Int), findE (encI x) (l.map mKV) = if l.contains x = true then some (encB true) else none
  | [] => by simp [findE]
  | y :: l => by
    rw [List.map_cons, findE]
    by_cases h : x = y
    · subst h
      rw [if_pos (by rw [keyEq_m]; simp), if_pos (by simp)]; rfl
    · have hc : (y :: l).contains x = l.contains x := by rw [Bool.eq_iff_iff]; simp [h]
      rw [if_neg (by rw [keyEq_m]; simpa using h), findE_mem x l, hc]
theorem setE_new (x : Int) : ∀ (l : List Int), l.contains x = false → setE (encI x) (encB true) (l.map mKV) = (l ++ [x]).map mKV
  | [], _ => by simp [setE, mKV]
  | y :: l, h => by
    have h2 : ¬ x = y ∧ l.contains x = false := by simpa using h
    rw [List.map_cons, setE, if_neg (by rw [keyEq_m]; simpa using h2.1), setE_new x l h2.2]; rfl
theorem ddp_snoc (L : List Int) (j : Int) : ddp (L ++ [j]) = if (ddp L).contains j = true then ddp L else ddp L ++ [j] := by
  unfold ddp; rw [addA_append, addA_one]
theorem once_1_callR {P : Program} (hm : P.follows .mixedOrders = true) {f : FuncId} (hI : Is P f c_reach_once_1 [] 3) {a b c : Nat} {L : List Int} {A : List Nat} {S : St} {j : Int} {K : AV → St → Prop} (hl : (ddp L).length ≤ 1000000)
    (h : J1 a b c L A S) (hk : ∀ S' A', J1 a b c (L ++ [j]) A' S' → Ext A A' S S' → K (.tup []) S') : CallR P f ([] ++ [encI j] ++ [.ptr b 0 0, .ptr c 0 0]) S K := by
  obtain ⟨v, rfl, ga, gb, gc, ⟨hv, hve⟩, la, lb, lc, n1, n2, n3, hi⟩ := h
  refine hI.callR hm rfl ?_
  have hf := findE_mem j (ddp L)
  have hall : ∀ x, isK (.int .i64) (mKV x).1 = true := fun _ => rfl
  have hk1 : isK (.int .i64) (.v (.int .i64 j)) = true := rfl
  simp only [encI] at hf
  cases hc : (ddp L).contains j with
  | true =>
    rw [hc] at hf
    simp only [if_true, encB] at hf
    simp [AW_seq, AW_reg, AW_regD, AW_block, AW_cond, AW_skip, AW_exit, AW_ret, AW_scp, condR_true, condR_false, AThen_normal, AThen_ret, AThen_exit, ABlock_normal, ABlock_ret, ABlock_exit, AScope_normal, AScope_ret, AScope_exit, RetK_ret, RetK_normal, retAV_one, retAV_two, retAV_three, retAV_nil, RG_nil, RG_op, RG_guard, gdR_tt, gdR_ff, gdR_tf, gdR_ft, gdR_un, RG_call, callQ_clo, contK_ap, opR_some, RD_nil, RD_op0, RD_op1, opD0_some, opD1_some, RD_call, callQD_clo, RD_guard, gdD_tt, gdD_ff, gdD_tf, gdD_ft, gdD_un, psh_nil, psh_cons, Apt_nil, Apt_nilT, Apt_true, Apt_false, Dis_def, runT_val, runT_rd, runT_wr, runT_new, runT_mv, ex, put_some, put_none, ev_t, ev_c, argF_zero, argF_succ, set_g, set_n, cells_v, cells_sl, cells_agg, cells_own, cells_ptr, cells_clo, cells_eptr, cells_mp, putc, exBslice, lfill, exField, exIdxV, exIdxP, exBox, exAlloc, exLoad, exStore, exFieldA, exIdxA, exLen, exPick, exUn, exBeq, exMM, exSeq, seqGo, exExt, binV, intOp, subc, AV.solid, S0, encI, encB, c_reach_once_1, gb, ga, exLook, hall, hk1, hf]
    refine hk _ (a :: b :: c :: v.ids) ⟨v, rfl, ?_, gb, gc, ?_, ?_, ?_, ?_, n1, n2, n3, fun i hh => ?_⟩ ⟨fun i h => .inl h, fun _ _ _ => rfl, ?_⟩
    · rw [ddp_snoc, hc, if_pos rfl]; exact ga
    · rw [ddp_snoc, hc, if_pos rfl]; exact ⟨hv.frame (fun _ _ => rfl), hve⟩
    · show a < _; simp; omega
    · show b < _; simp; omega
    · show c < _; simp; omega
    · have := hi i hh; exact ⟨by simp; omega, this.2⟩
    · simp
  | false =>
    rw [hc] at hf
    simp only [Bool.false_eq_true, if_false] at hf
    have hset := setE_new j (ddp L) hc
    simp only [encI, encB] at hset
    have hvc := hv.cel
    have hvs := hvc.2
    simp only [AV.solid] at hvs
    have n1' := Ne.symm n1
    have n2' := Ne.symm n2
    have n3' := Ne.symm n3
    simp [AW_seq, AW_reg, AW_regD, AW_block, AW_cond, AW_skip, AW_exit, AW_ret, AW_scp, condR_true, condR_false, AThen_normal, AThen_ret, AThen_exit, ABlock_normal, ABlock_ret, ABlock_exit, AScope_normal, AScope_ret, AScope_exit, RetK_ret, RetK_normal, retAV_one, retAV_two, retAV_three, retAV_nil, RG_nil, RG_op, RG_guard, gdR_tt, gdR_ff, gdR_tf, gdR_ft, gdR_un, RG_call, callQ_clo, contK_ap, opR_some, RD_nil, RD_op0, RD_op1, opD0_some, opD1_some, RD_call, callQD_clo, RD_guard, gdD_tt, gdD_ff, gdD_tf, gdD_ft, gdD_un, psh_nil, psh_cons, Apt_nil, Apt_nilT, Apt_true, Apt_false, Dis_def, runT_val, runT_rd, runT_wr, runT_new, runT_mv, ex, put_some, put_none, ev_t, ev_c, argF_zero, argF_succ, set_g, set_n, cells_v, cells_sl, cells_agg, cells_own, cells_ptr, cells_clo, cells_eptr, cells_mp, putc, exBslice, lfill, exField, exIdxV, exIdxP, exBox, exAlloc, exLoad, exStore, exFieldA, exIdxA, exLen, exPick, exUn, exBeq, exMM, exSeq, seqGo, exExt, binV, intOp, subc, AV.solid, S0, encI, encB, c_reach_once_1, gb, ga, exLook, exMset, hall, hk1, hf, hset, gc, n1, n2, n3, n1', n2', n3', hvc.1, hvs]
    generalize hg1 : (({ n := S.n + 4 + 3, g := S.g } : St).set a (some (Blk.map (List.map mKV (ddp L) ++ [mKV j])))).g = g1
    have hga : g1 a = some (Blk.map (List.map mKV (ddp L) ++ [mKV j])) := by rw [← hg1]; simp [set_g]
    have hgo : ∀ i, i ≠ a → g1 i = S.g i := fun i hi => by rw [← hg1]; simp [set_g, hi]
    have hv1 : Vec g1 v 1 ((ddp L).map encI) := hv.frame (fun i h => hgo i (hi i h).2.1)
    have hap := fun (m nid : Nat) => Vec.app (n := m) (nid := nid) (by_ := 8) (x := .v (.int .i64 j)) hv1 (cells_I _) (by simp [AV.cells]) (appOk8 (by rw [List.length_map]; omega))
    rw [hap]
    have hcv : c ∉ v.ids := fun h => (hi c h).2.2.2 rfl
    have hw : (St.without ⟨S.n + 4 + 3 + 5, g1⟩ v).g c = some (.arr 1 [v]) := by rw [without_g c hcv]; show g1 c = _; rw [hgo c n2']; exact gc
    have hcn : ¬ c = S.n + 4 + 3 + 3 := by omega
    simp [AW_seq, AW_reg, AW_regD, AW_block, AW_cond, AW_skip, AW_exit, AW_ret, AW_scp, condR_true, condR_false, AThen_normal, AThen_ret, AThen_exit, ABlock_normal, ABlock_ret, ABlock_exit, AScope_normal, AScope_ret, AScope_exit, RetK_ret, RetK_normal, retAV_one, retAV_two, retAV_three, retAV_nil, RG_nil, RG_op, RG_guard, gdR_tt, gdR_ff, gdR_tf, gdR_ft, gdR_un, RG_call, callQ_clo, contK_ap, opR_some, RD_nil, RD_op0, RD_op1, opD0_some, opD1_some, RD_call, callQD_clo, RD_guard, gdD_tt, gdD_ff, gdD_tf, gdD_ft, gdD_un, psh_nil, psh_cons, Apt_nil, Apt_nilT, Apt_true, Apt_false, Dis_def, runT_val, runT_rd, runT_wr, runT_new, runT_mv, ex, put_some, put_none, ev_t, ev_c, argF_zero, argF_succ, set_g, set_n, cells_v, cells_sl, cells_agg, cells_own, cells_ptr, cells_clo, cells_eptr, cells_mp, putc, exBslice, lfill, exField, exIdxV, exIdxP, exBox, exAlloc, exLoad, exStore, exFieldA, exIdxA, exLen, exPick, exUn, exBeq, exMM, exSeq, seqGo, exExt, binV, intOp, subc, AV.solid, S0, encI, encB, c_reach_once_1, hw, hcn, hvc.1, hvs]
    have hv' : ∀ i, i ∉ v.ids → i ≠ S.n + 4 + 3 + 3 → i ≠ c → ∀ x, (((St.without ⟨S.n + 4 + 3 + 5, g1⟩ v).set (S.n + 4 + 3 + 3) (some (Blk.arr 1 ((ddp L).map encI ++ [.v (.int .i64 j)])))).set c x).g i = g1 i := by
      intro i h1 h2 h3 x
      rw [set_g, if_neg h3, set_g, if_neg h2, without_g i h1]
    refine hk _ (a :: b :: c :: [S.n + 4 + 3 + 3]) ⟨.own (S.n + 4 + 3 + 3) 0 ((ddp L).length + 1), rfl, ?_, ?_, ?_, ?_, ?_, ?_, ?_, n1, n2, n3, ?_⟩ ⟨?_, ?_, ?_⟩
    · rw [hv' a (fun h => (hi a h).2.1 rfl) (by omega) n2, hga, ddp_snoc, hc]; simp
    · rw [hv' b (fun h => (hi b h).2.2.1 rfl) (by omega) n3, hgo b n1']; exact gb
    · simp [set_g]
    · rw [ddp_snoc, hc, if_neg (by simp)]
      exact ⟨.mk' (by simp [set_g, encI]; omega) (by simp), fun h => by simp at h⟩
    · rw [set_n, set_n, without_n]; show a < S.n + 4 + 3 + 5; omega
    · rw [set_n, set_n, without_n]; show b < S.n + 4 + 3 + 5; omega
    · rw [set_n, set_n, without_n]; show c < S.n + 4 + 3 + 5; omega
    · intro i h
      simp only [AV.ids, List.mem_singleton] at h
      subst h
      refine ⟨by rw [set_n, set_n, without_n]; show _ < S.n + 4 + 3 + 5; omega, by omega, by omega, by omega⟩
    · intro i h
      simp only [List.mem_cons, List.not_mem_nil, or_false] at h
      rcases h with rfl | rfl | rfl | rfl
      · simp
      · simp
      · simp
      · right; omega
    · intro i h1 h2
      simp only [List.mem_cons, not_or] at h2
      rw [hv' i h2.2.2.2 (by omega) h2.2.2.1, hgo i h2.1]
    · rw [set_n, set_n, without_n]; show S.n ≤ S.n + 4 + 3 + 5; omega
def J1n (n a b c : Nat) (L : List Int) (A : List Nat) (S : St) : Prop := J1 a b c L A S ∧ ∀ x ∈ L, 0 ≤ x ∧ x ≤ (n : Int)
theorem ddp_len {n : Nat} {L : List Int} (h : ∀ x ∈ L, 0 ≤ x ∧ x ≤ (n : Int)) : (ddp L).length ≤ n + 1 :=
  nodup_len (n + 1) (ddp_nodup L) (fun x hx => by have := h x (mem_ddp.mp hx); omega)
theorem J1_tlr {P : Program} (hm : P.follows .mixedOrders = true) {f : FuncId} (hI : Is P f c_reach_once_1 [] 3) {n : Nat} (hn : n ≤ 100000) (a b c : Nat) :
    Tlr P n (.clo f [] [.ptr b 0 0, .ptr c 0 0]) (J1n n a b c) := by
  refine ⟨?_, ?_, f, [], _, rfl, ?_⟩
  · rintro L A S S' ⟨⟨v, rfl, ga, gb, gc, ⟨hv, hve⟩, la, lb, lc, n1, n2, n3, hi⟩, hb⟩ hg hnn
    refine ⟨⟨v, rfl, by rw [hg a (by simp)]; exact ga, by rw [hg b (by simp)]; exact gb, by rw [hg c (by simp)]; exact gc, ⟨hv.frame (fun i h => hg i (by simp [h])), hve⟩, by omega, by omega, by omega, n1, n2, n3, fun i h => ?_⟩, hb⟩
    have := hi i h
    exact ⟨by omega, this.2⟩
  · rintro L A S ⟨⟨v, rfl, ga, gb, gc, ⟨hv, hve⟩, la, lb, lc, n1, n2, n3, hi⟩, hb⟩ i h
    simp only [List.mem_cons] at h
    rcases h with rfl | rfl | rfl | h
    · exact la
    · exact lb
    · exact lc
    · exact (hi i h).1
  · rintro L A S j K h0 hj ⟨h1, hb⟩ hk
    have := ddp_len hb
    refine once_1_callR hm hI (by omega) h1 (fun S' A' h2 he => hk S' A' ⟨h2, fun x hx => ?_⟩ he)
    rcases List.mem_append.mp hx with hx | hx
    · exact hb x hx
    · simp at hx; subst hx; exact ⟨h0, hj⟩
theorem once_callR' {P : Program} (hm : P.follows .mixedOrders = true) {fo f1 : FuncId} (hI : Is P fo (c_reach_once f1) [2] 1) (hI1 : Is P f1 c_reach_once_1 [] 3) {n : Nat} (hn : n ≤ 100000) {dv : AV} {vs : List Int} {S : St} (hd : Deed P n dv S vs) {K : AV → St → Prop}
    (hk : ∀ S' v, Vec S'.g v 1 ((ddp vs).map encI) → (ddp vs = [] → v = .sl true []) → (∀ i ∈ v.ids, S.n ≤ i ∧ i < S'.n) → (∀ i, i < S.n → S'.g i = S.g i) → S.n ≤ S'.n → K v S') : CallR P fo [dv] S K := by
  obtain ⟨fd, first, cap, rfl, hd⟩ := hd
  refine hI.callR hm rfl ?_
  simp [AW_seq, AW_reg, AW_regD, AW_block, AW_cond, AW_skip, AW_exit, AW_ret, AW_scp, condR_true, condR_false, AThen_normal, AThen_ret, AThen_exit, ABlock_normal, ABlock_ret, ABlock_exit, AScope_normal, AScope_ret, AScope_exit, RetK_ret, RetK_normal, retAV_one, retAV_two, retAV_three, retAV_nil, RG_nil, RG_op, RG_guard, gdR_tt, gdR_ff, gdR_tf, gdR_ft, gdR_un, RG_call, callQ_clo, contK_ap, opR_some, RD_nil, RD_op0, RD_op1, opD0_some, opD1_some, RD_call, callQD_clo, RD_guard, gdD_tt, gdD_ff, gdD_tf, gdD_ft, gdD_un, psh_nil, psh_cons, Apt_nil, Apt_nilT, Apt_true, Apt_false, Dis_def, runT_val, runT_rd, runT_wr, runT_new, runT_mv, ex, put_some, put_none, ev_t, ev_c, argF_zero, argF_succ, set_g, set_n, cells_v, cells_sl, cells_agg, cells_own, cells_ptr, cells_clo, cells_eptr, cells_mp, putc, exBslice, lfill, exField, exIdxV, exIdxP, exBox, exAlloc, exLoad, exStore, exFieldA, exIdxA, exLen, exPick, exUn, exBeq, exMM, exSeq, seqGo, exExt, binV, intOp, subc, AV.solid, S0, encI, encB, c_reach_once, exMmk]
  refine hd _ (by show S.n ≤ S.n + 1 + 3 + 1 + 3; omega) (fun i hi => ?_) _ (J1n n (S.n + 1) (S.n + 1 + 1) (S.n + 4)) [] [S.n + 1, S.n + 1 + 1, S.n + 4] _ (J1_tlr hm hI1 hn _ _ _) ⟨⟨.sl true [], rfl, ?_, ?_, ?_, ?_, ?_, ?_, ?_, ?_, ?_, ?_, ?_⟩, by simp⟩ (fun i hi => ?_) (fun S' A' h he => ?_)
  · simp only [set_g]
    rw [if_neg (by omega), if_neg (by omega), if_neg (by omega), if_neg (by omega)]
  · simp [set_g, ddp, addA]
  · simp [set_g]
  · simp [set_g]
  · exact ⟨by simp [ddp, addA]; exact .nil, fun _ => rfl⟩
  · show S.n + 1 < S.n + 1 + 3 + 1 + 3; omega
  · show S.n + 1 + 1 < S.n + 1 + 3 + 1 + 3; omega
  · show S.n + 4 < S.n + 1 + 3 + 1 + 3; omega
  · omega
  · omega
  · omega
  · simp [AV.ids]
  · simp only [List.mem_cons, List.not_mem_nil, or_false] at hi
    rcases hi with rfl | rfl | rfl <;> omega
  · obtain ⟨⟨v, rfl, ga, gb, gc, ⟨hv, hve⟩, la, lb, lc, n1, n2, n3, hi⟩, hb⟩ := h
    rw [List.nil_append] at hv
    have hvc := hv.cel
    have hvs := hvc.2
    simp only [AV.solid] at hvs
    have hnn := he.nn
    simp [AW_seq, AW_reg, AW_regD, AW_block, AW_cond, AW_skip, AW_exit, AW_ret, AW_scp, condR_true, condR_false, AThen_normal, AThen_ret, AThen_exit, ABlock_normal, ABlock_ret, ABlock_exit, AScope_normal, AScope_ret, AScope_exit, RetK_ret, RetK_normal, retAV_one, retAV_two, retAV_three, retAV_nil, RG_nil, RG_op, RG_guard, gdR_tt, gdR_ff, gdR_tf, gdR_ft, gdR_un, RG_call, callQ_clo, contK_ap, opR_some, RD_nil, RD_op0, RD_op1, opD0_some, opD1_some, RD_call, callQD_clo, RD_guard, gdD_tt, gdD_ff, gdD_tf, gdD_ft, gdD_un, psh_nil, psh_cons, Apt_nil, Apt_nilT, Apt_true, Apt_false, Dis_def, runT_val, runT_rd, runT_wr, runT_new, runT_mv, ex, put_some, put_none, ev_t, ev_c, argF_zero, argF_succ, set_g, set_n, cells_v, cells_sl, cells_agg, cells_own, cells_ptr, cells_clo, cells_eptr, cells_mp, putc, exBslice, lfill, exField, exIdxV, exIdxP, exBox, exAlloc, exLoad, exStore, exFieldA, exIdxA, exLen, exPick, exUn, exBeq, exMM, exSeq, seqGo, exExt, binV, intOp, subc, AV.solid, S0, encI, encB, gc, hvc.1, hvs]
    refine hk _ v (hv.frame (fun _ _ => rfl)) (by rw [List.nil_append] at hve; exact hve) (fun i h => ?_) (fun i h => ?_) ?_
    · have h1 := hi i h
      have h2 := he.nw i (by simp [h])
      simp only [List.mem_cons, List.not_mem_nil, or_false] at h2
      have h3 : S.n + 1 + 3 + 1 + 3 ≤ S'.n := hnn
      rcases h2 with (h2 | h2 | h2) | h2
      · exact ⟨by omega, by simp; omega⟩
      · exact ⟨by omega, by simp; omega⟩
      · exact ⟨by omega, by simp; omega⟩
      · have h4 : S.n + 1 + 3 + 1 + 3 ≤ i := h2
        exact ⟨by omega, by simp; omega⟩
    · have h1 := he.fr i (by show i < S.n + 1 + 3 + 1 + 3; omega) (by simp; omega)
      refine Eq.trans h1 ?_
      simp only [set_g]
      rw [if_neg (by omega), if_neg (by omega), if_neg (by omega), if_neg (by omega)]
    · have h3 : S.n + 1 + 3 + 1 + 3 ≤ S'.n := hnn
      simp; omega
theorem once_callR {P : Program} (hm : P.follows .mixedOrders = true) {fo f1 : FuncId} (hI : Is P fo (c_reach_once f1) [2] 1) (hI1 : Is P f1 c_reach_once_1 [] 3) {n : Nat} (hn : n ≤ 100000) {dv : AV} {vs : List Int} {S : St} (hd : Deed P n dv S vs) {K : AV → St → Prop}
    (hk : ∀ S' v, Vec S'.g v 1 ((ddp vs).map encI) → (∀ i ∈ v.ids, S.n ≤ i ∧ i < S'.n) → (∀ i, i < S.n → S'.g i = S.g i) → S.n ≤ S'.n → K v S') : CallR P fo [dv] S K :=
  once_callR' hm hI hI1 hn hd (fun S' v h1 _ h2 h3 h4 => hk S' v h1 h2 h3 h4)
end Go.Rf


/- Own work: up to where a form matches, told. -/
set_option linter.unusedVariables false
set_option linter.unusedSimpArgs false
namespace Go.Rf
open Go.RowKit

def c_reach_walker_all_1 (f_reach_walker_from : FuncId) : AC :=
  (.seq (.reg none [
   ⟨(some 7), .load none (.t 1), none, none⟩,
   ⟨(some 8), .len (.t 7), none, none⟩,
   ⟨(some 9), .mv (.c (.v (.int .i64 0))), none, none⟩])
  (.block 0 (.loop (.seq (.reg none [
     ⟨(some 10), .bin .lss (.t 9) (.t 8), none, none⟩])
    (.seq (.cond (.t 10) .skip (.exit 0))
    (.seq (.block 1 (.seq (.reg none [
      ⟨(some 11), .idxA 1 (.t 7) (.t 9), none, none⟩,
      ⟨(some 12), .load none (.t 11), none, none⟩,
      ⟨(some 6), .mv (.t 12), none, none⟩])
     (.reg none [
      ⟨(some 13), .load (some 1) (.t 2), none, none⟩,
      ⟨(some 14), .load (some 4) (.t 3), none, none⟩,
      ⟨(some 15), .mv (.t 6), none, none⟩,
      ⟨(some 16), .mv (.t 0), none, none⟩,
      ⟨(some 17), .mv (.c .junk), none, (some ((.c (.clo f_reach_walker_from [] [])), [(.t 13), (.t 14), (.t 15), (.t 16)]))⟩])))
    (.reg none [
     ⟨(some 18), .bin .add (.t 9) (.c (.v (.int .i64 1))), none, none⟩,
     ⟨(some 9), .mv (.t 18), none, none⟩])))))))
def c_all_in (f_reach_walker_all_1 f_reach_once : FuncId) : AC :=
  (.block 0 (.loop (.seq (.reg none [
     ⟨(some 18), .bin .lss (.t 17) (.t 16), none, none⟩])
    (.seq (.cond (.t 18) .skip (.exit 0))
    (.seq (.block 1 (.seq (.reg none [
      ⟨(some 19), .idxA 4 (.t 15) (.t 17), none, none⟩,
      ⟨(some 20), .load (some 4) (.t 19), none, none⟩,
      ⟨(some 10), .alloc (.agg [(.v (.int .i64 0)), (.sl true []), (.sl true []), (.sl true [])]) 4, none, none⟩,
      ⟨none, .store 4 (.t 10) (.t 20), none, none⟩])
     (.reg none [
      ⟨(some 21), .mkf f_reach_walker_all_1 [] [(.t 8), (.t 4), (.t 10)], none, none⟩,
      ⟨(some 22), .mv (.c .junk), none, (some ((.c (.clo f_reach_once [] [])), [(.t 21)]))⟩,
      ⟨none, .store 1 (.t 8) (.t 22), none, none⟩])))
    (.reg none [
     ⟨(some 23), .bin .add (.t 17) (.c (.v (.int .i64 1))), none, none⟩,
     ⟨(some 17), .mv (.t 23), none, none⟩]))))))
def c_all_out : AC :=
  (.block 2 (.loop (.seq (.reg none [
     ⟨(some 27), .bin .lss (.t 26) (.t 25), none, none⟩])
    (.seq (.cond (.t 27) .skip (.exit 2))
    (.seq (.block 3 (.seq (.reg none [
      ⟨(some 28), .idxA 1 (.t 24) (.t 26), none, none⟩,
      ⟨(some 29), .load none (.t 28), none, none⟩,
      ⟨(some 12), .mv (.t 29), none, none⟩])
     (.reg none [
      ⟨(some 30), .mv (.t 3), none, none⟩,
      ⟨(some 31), .mv (.t 12), none, none⟩,
      ⟨(some 32), .mv (.c .junk), none, (some ((.t 30), [(.t 31)]))⟩])))
    (.reg none [
     ⟨(some 33), .bin .add (.t 26) (.c (.v (.int .i64 1))), none, none⟩,
     ⟨(some 26), .mv (.t 33), none, none⟩]))))))
def c_reach_walker_all (f_reach_walker_all_1 f_reach_once : FuncId) : AC :=
  (.seq (.reg none [
   ⟨(some 4), .box 1 (.t 0), none, none⟩])
  (.seq (.reg none [
   ⟨(some 13), .mv (.t 2), none, none⟩,
   ⟨(some 14), .bslice 1 1 (.v (.int .i64 0)) [(0, (.t 13))], none, none⟩,
   ⟨(some 8), .alloc (.sl true []) 1, none, none⟩,
   ⟨none, .store 1 (.t 8) (.t 14), none, none⟩])
  (.seq (.seq (.reg none [
   ⟨(some 15), .mv (.t 1), none, none⟩,
   ⟨(some 16), .len (.t 15), none, none⟩,
   ⟨(some 17), .mv (.c (.v (.int .i64 0))), none, none⟩])
  (c_all_in f_reach_walker_all_1 f_reach_once))
  (.seq (.reg none [
   ⟨(some 24), .load none (.t 8), none, none⟩,
   ⟨(some 25), .len (.t 24), none, none⟩,
   ⟨(some 26), .mv (.c (.v (.int .i64 0))), none, none⟩])
  c_all_out))))
/-- A list, fixed or of one's own. -/
def LV (g : Nat → Option Blk) (v : AV) (xs : List AV) : Prop := (∃ t, v = .sl t xs) ∨ Vec g v 1 xs
theorem LV.frame {g g' : Nat → Option Blk} {v : AV} {xs : List AV} (h : LV g v xs) (hs : ∀ i ∈ v.ids, g' i = g i) : LV g' v xs := by
  rcases h with h | h
  · exact .inl h
  · exact .inr (h.frame hs)
theorem LV.cell {g : Nat → Option Blk} {v : AV} {xs : List AV} (h : LV g v xs) : v.cells = [v] ∧ v.solid = true := by
  rcases h with ⟨t, rfl⟩ | h
  · exact ⟨rfl, rfl⟩
  · exact h.cel
theorem LV.len {g : Nat → Option Blk} {v : AV} {xs : List AV} (h : LV g v xs) : exLen v = some (.v (.int .i64 xs.length)) := by
  rcases h with ⟨t, rfl⟩ | ⟨rfl, rfl⟩ | ⟨id, off, ys, rfl, _, _, _⟩ <;> rfl
theorem LV.idx {g : Nat → Option Blk} {v : AV} {xs : List AV} (h : LV g v xs) {i : Nat} (hi : i < xs.length) (h1 : (xs[i]).cells.length = 1) (hs : (xs[i]).cells = [xs[i]]) :
    ∃ p, (∀ n nid, (exIdxA 1 v (.v (.int .i64 (i : Int)))).run ⟨n, g⟩ nid = some (p, ⟨n, g⟩)) ∧ ∀ n nid, (exLoad none p).run ⟨n, g⟩ nid = some (xs[i], ⟨n, g⟩) := by
  have hi0 : (0 : Int) ≤ (i : Int) := by omega
  rcases h with ⟨t, rfl⟩ | ⟨rfl, rfl⟩ | ⟨id, off, ys, rfl, h2, h3, h4⟩
  · refine ⟨.eptr xs[i] 0, fun n nid => ?_, fun n nid => ?_⟩
    · simp [exIdxA, hi, h1]
    · simp [exLoad, subc, hs]
  · simp at hi
  · have hget : ys[off + i]? = some xs[i] := by
      have : (ys.drop off)[i]? = some xs[i] := by rw [h4]; simp [List.getElem?_eq_getElem hi]
      rwa [List.getElem?_drop] at this
    have hle : off + xs.length ≤ ys.length := by have := congrArg List.length h4; simp at this; omega
    refine ⟨.ptr id (off + i) 0, fun n nid => ?_, fun n nid => ?_⟩
    · simp [exIdxA, hi, h2, hle]
    · simp [exLoad, subc, hs, h2, hget]
structure A1S (l : List Int) (q : Pat) (b8 b4 b10 : Nat) (cv : AV) (cur : List Int) (tv : AV) (g : Nat → Option Blk) (N : Nat) (f : AF) (S : St) : Prop where
  e0 : f 0 = tv
  e2 : f 2 = .ptr b4 0 0
  e3 : f 3 = .ptr b10 0 0
  e7 : f 7 = cv
  e8 : f 8 = encI cur.length
  fr : ∀ i, i < N → S.g i = g i
  nn : N ≤ S.n
def A1I (l : List Int) (q : Pat) (b8 b4 b10 : Nat) (cv : AV) (cur : List Int) (tv : AV) (g : Nat → Option Blk) (N : Nat) (J : List Int → List Nat → St → Prop) (L : List Int) (A : List Nat) (S1 : St) (k : Nat) (f : AF) (S : St) : Prop :=
  A1S l q b8 b4 b10 cv cur tv g N f S ∧ f 9 = encI k ∧ ∃ A', J (L ++ (cur.take k).flatMap (fun a => visits l q a)) A' S ∧ Ext A A' S1 S
theorem all_1_deed {P : Program} (hm : P.follows .mixedOrders = true) {ff f1 : FuncId} (hI : Is P f1 (c_reach_walker_all_1 ff) [] 4) {l : List Int} {q : Pat} (hq : FromOk P ff l q) {S : St} {b8 b4 b10 : Nat} {cv : AV} {cur : List Int} (l8 : b8 < S.n) (l4 : b4 < S.n) (l10 : b10 < S.n)
    (g8 : S.g b8 = some (.arr 1 [cv])) (g4 : S.g b4 = some (.arr 1 [encW l])) (g10 : S.g b10 = some (.arr 4 [encPat q])) (hcv : LV S.g cv (cur.map encI)) (hci : ∀ i ∈ cv.ids, i < S.n) (hcur : ∀ x ∈ cur, 0 ≤ x ∧ x ≤ l.length) (hlen : cur.length ≤ 1000000) :
    Deed P l.length (.clo f1 [] [.ptr b8 0 0, .ptr b4 0 0, .ptr b10 0 0]) S (cur.flatMap fun a => visits l q a) := by
  refine ⟨f1, [], _, rfl, fun S1 hn hg tv J L A K hT hJ hA hk => ?_⟩
  refine hI.callR hm rfl ?_
  have g8' := (hg b8 l8).trans g8
  have hcv1 : LV S1.g cv (cur.map encI) := hcv.frame (fun i h => hg i (hci i h))
  have hcc := hcv1.cell
  have hcs := hcc.2
  simp only [AV.solid] at hcs
  have hlc := hcv1.len
  simp only [List.length_map, exLen] at hlc
  simp [AW_seq, AW_reg, AW_regD, AW_block, AW_cond, AW_skip, AW_exit, AW_ret, AW_scp, condR_true, condR_false, AThen_normal, AThen_ret, AThen_exit, ABlock_normal, ABlock_ret, ABlock_exit, AScope_normal, AScope_ret, AScope_exit, RetK_ret, RetK_normal, retAV_one, retAV_two, retAV_three, retAV_nil, RG_nil, RG_op, RG_guard, gdR_tt, gdR_ff, gdR_tf, gdR_ft, gdR_un, RG_call, callQ_clo, contK_ap, opR_some, RD_nil, RD_op0, RD_op1, opD0_some, opD1_some, RD_call, callQD_clo, RD_guard, gdD_tt, gdD_ff, gdD_tf, gdD_ft, gdD_un, psh_nil, psh_cons, Apt_nil, Apt_nilT, Apt_true, Apt_false, Dis_def, runT_val, runT_rd, runT_wr, runT_new, runT_mv, ex, put_some, put_none, ev_t, ev_c, argF_zero, argF_succ, set_g, set_n, cells_v, cells_sl, cells_agg, cells_own, cells_ptr, cells_clo, cells_eptr, cells_mp, putc, exBslice, lfill, exField, exIdxV, exIdxP, exBox, exAlloc, exLoad, exStore, exFieldA, exIdxA, exLen, exPick, exUn, exBeq, exMM, exSeq, seqGo, exExt, binV, intOp, subc, AV.solid, S0, encI, encB, c_reach_walker_all_1, g8', hcc.1, hcs, hlc]
  refine AW_for cur.length (A1I l q b8 b4 b10 cv cur tv S.g S.n J L A S1) ?_ ?_
  · refine ⟨⟨?_, ?_, ?_, ?_, ?_, fun i hi => hg i hi, ?_⟩, ?_, A, ?_, ?_⟩
    · simp [put_some, argF_zero]
    · simp [put_some, argF_zero, argF_succ]
    · simp [put_some, argF_zero, argF_succ]
    · simp [put_some]
    · simp [put_some, encI]
    · show S.n ≤ _; simp; omega
    · simp [put_some, encI]
    · simp only [List.take_zero, List.flatMap_nil, List.append_nil]
      exact hT.keep hJ (fun _ _ => rfl) (by show S1.n ≤ _; simp)
    · exact ⟨fun i h => .inl h, fun _ _ _ => rfl, by simp⟩
  · rintro k f S2 hk' ⟨h, e9, A2, hJ2, hE⟩
    have e2 := h.e2
    have e3 := h.e3
    have e7 := h.e7
    have e8 := h.e8
    by_cases hlt : k < cur.length
    · obtain ⟨pk, ps, pg, pks⟩ := q
      have g4' := (h.fr b4 l4).trans g4
      have g10' := (h.fr b10 l10).trans g10
      have hcv2 : LV S2.g cv (cur.map encI) := hcv.frame (fun i hi => h.fr i (hci i hi))
      obtain ⟨pp, hi1, hi2⟩ := hcv2.idx (i := k) (by simpa using hlt) (by simp [encI, AV.cells]) (by simp [encI, AV.cells])
      simp only [List.getElem_map, encI, exLoad, subc] at hi2
      simp only [exIdxA] at hi1
      have hb := hcur _ (List.getElem_mem hlt)
      simp only [encW] at g4'
      rw [encPat_eq] at g10'
      simp [AW_seq, AW_reg, AW_regD, AW_block, AW_cond, AW_skip, AW_exit, AW_ret, AW_scp, condR_true, condR_false, AThen_normal, AThen_ret, AThen_exit, ABlock_normal, ABlock_ret, ABlock_exit, AScope_normal, AScope_ret, AScope_exit, RetK_ret, RetK_normal, retAV_one, retAV_two, retAV_three, retAV_nil, RG_nil, RG_op, RG_guard, gdR_tt, gdR_ff, gdR_tf, gdR_ft, gdR_un, RG_call, callQ_clo, contK_ap, opR_some, RD_nil, RD_op0, RD_op1, opD0_some, opD1_some, RD_call, callQD_clo, RD_guard, gdD_tt, gdD_ff, gdD_tf, gdD_ft, gdD_un, psh_nil, psh_cons, Apt_nil, Apt_nilT, Apt_true, Apt_false, Dis_def, runT_val, runT_rd, runT_wr, runT_new, runT_mv, ex, put_some, put_none, ev_t, ev_c, argF_zero, argF_succ, set_g, set_n, cells_v, cells_sl, cells_agg, cells_own, cells_ptr, cells_clo, cells_eptr, cells_mp, putc, exBslice, lfill, exField, exIdxV, exIdxP, exBox, exAlloc, exLoad, exStore, exFieldA, exIdxA, exLen, exPick, exUn, exBeq, exMM, exSeq, seqGo, exExt, binV, intOp, subc, AV.solid, S0, encI, encB, e2, e3, e7, e8, e9, g4', g10', hlt, hi1, hi2, encIs, encRs]
      have hq2 := hq
      unfold FromOk at hq2
      simp only [encPat_eq, encW, encIs, encI, encRs] at hq2
      rw [h.e0]
      have hA2 : ∀ i ∈ A2, S.n ≤ i := fun i hi => by
        rcases hE.nw i hi with h1 | h1
        · exact hA i h1
        · omega
      refine hq2 _ _ J _ A2 _ _ hb.1 hb.2 hT (hT.keep hJ2 (fun _ _ => rfl) (by show S2.n ≤ _; simp; omega)) fun S3 A3 hJ3 hE3 => ?_
      have hn3 := hE3.nn
      have hn3' : S2.n + 1 + 3 + 5 ≤ S3.n := hn3
      have hnn := h.nn
      simp [AW_seq, AW_reg, AW_regD, AW_block, AW_cond, AW_skip, AW_exit, AW_ret, AW_scp, condR_true, condR_false, AThen_normal, AThen_ret, AThen_exit, ABlock_normal, ABlock_ret, ABlock_exit, AScope_normal, AScope_ret, AScope_exit, RetK_ret, RetK_normal, retAV_one, retAV_two, retAV_three, retAV_nil, RG_nil, RG_op, RG_guard, gdR_tt, gdR_ff, gdR_tf, gdR_ft, gdR_un, RG_call, callQ_clo, contK_ap, opR_some, RD_nil, RD_op0, RD_op1, opD0_some, opD1_some, RD_call, callQD_clo, RD_guard, gdD_tt, gdD_ff, gdD_tf, gdD_ft, gdD_un, psh_nil, psh_cons, Apt_nil, Apt_nilT, Apt_true, Apt_false, Dis_def, runT_val, runT_rd, runT_wr, runT_new, runT_mv, ex, put_some, put_none, ev_t, ev_c, argF_zero, argF_succ, set_g, set_n, cells_v, cells_sl, cells_agg, cells_own, cells_ptr, cells_clo, cells_eptr, cells_mp, putc, exBslice, lfill, exField, exIdxV, exIdxP, exBox, exAlloc, exLoad, exStore, exFieldA, exIdxA, exLen, exPick, exUn, exBeq, exMM, exSeq, seqGo, exExt, binV, intOp, subc, AV.solid, S0, encI, encB, e2, e3, e7, e8, e9]
      rw [wrap_in _ (by omega)]
      have htk : cur.take (k + 1) = cur.take k ++ [cur[k]] := by rw [List.take_add_one, List.getElem?_eq_getElem hlt]; rfl
      refine ⟨hlt, ⟨?_, ?_, ?_, ?_, ?_, fun i hi => ?_, ?_⟩, ?_, A3, ?_, ?_⟩
      · simp [put_some, h.e0]
      · simp [put_some, e2]
      · simp [put_some, e3]
      · simp [put_some, e7]
      · simp [put_some, e8]
      · exact (hE3.fr i (by show i < S2.n + 1 + 3 + 5; omega) (fun h1 => by have := hA2 i h1; omega)).trans (h.fr i hi)
      · simp; omega
      · simp [put_some, encI]
      · rw [htk, List.flatMap_append, ← List.append_assoc]
        have e1 : [cur[k]].flatMap (fun a => visits l (Pat.mk pk ps pg pks) a) = visits l (Pat.mk pk ps pg pks) cur[k] := by simp
        rw [e1]
        exact hT.keep hJ3 (fun _ _ => rfl) (by simp)
      · refine hE.trans ⟨fun i hi => ?_, fun i hi hi2 => ?_, ?_⟩
        · rcases hE3.nw i hi with h1 | h1
          · exact .inl h1
          · exact .inr (by have h2 : S2.n + 1 + 3 + 5 ≤ i := h1; omega)
        · exact hE3.fr i (by show i < S2.n + 1 + 3 + 5; omega) hi2
        · simp; omega
    · have hke : k = cur.length := by omega
      subst hke
      rw [List.take_length] at hJ2
      simp [AW_seq, AW_reg, AW_regD, AW_block, AW_cond, AW_skip, AW_exit, AW_ret, AW_scp, condR_true, condR_false, AThen_normal, AThen_ret, AThen_exit, ABlock_normal, ABlock_ret, ABlock_exit, AScope_normal, AScope_ret, AScope_exit, RetK_ret, RetK_normal, retAV_one, retAV_two, retAV_three, retAV_nil, RG_nil, RG_op, RG_guard, gdR_tt, gdR_ff, gdR_tf, gdR_ft, gdR_un, RG_call, callQ_clo, contK_ap, opR_some, RD_nil, RD_op0, RD_op1, opD0_some, opD1_some, RD_call, callQD_clo, RD_guard, gdD_tt, gdD_ff, gdD_tf, gdD_ft, gdD_un, psh_nil, psh_cons, Apt_nil, Apt_nilT, Apt_true, Apt_false, Dis_def, runT_val, runT_rd, runT_wr, runT_new, runT_mv, ex, put_some, put_none, ev_t, ev_c, argF_zero, argF_succ, set_g, set_n, cells_v, cells_sl, cells_agg, cells_own, cells_ptr, cells_clo, cells_eptr, cells_mp, putc, exBslice, lfill, exField, exIdxV, exIdxP, exBox, exAlloc, exLoad, exStore, exFieldA, exIdxA, exLen, exPick, exUn, exBeq, exMM, exSeq, seqGo, exExt, binV, intOp, subc, AV.solid, S0, encI, encB, e2, e3, e7, e8, e9, hlt]
      refine hk _ A2 (hT.keep hJ2 (fun _ _ => rfl) (by simp)) ⟨hE.nw, hE.fr, by have := hE.nn; simp; omega⟩
theorem visAll_snoc (l : List Int) (q : Pat) : ∀ (ks : List Pat) (cur : List Int), visAll l (ks ++ [q]) cur = ddp ((visAll l ks cur).flatMap fun a => visits l q a)
  | [], cur => by simp [visAll]
  | k :: ks, cur => by
    rw [List.cons_append, visAll, visAll]
    exact visAll_snoc l q ks _
structure AlS (l : List Int) (ks : List Pat) (tv : AV) (b4 b8 : Nat) (Sz : St) (k : Nat) (f : AF) (S : St) : Prop where
  e3 : f 3 = tv
  e4 : f 4 = .ptr b4 0 0
  e8 : f 8 = .ptr b8 0 0
  e15 : f 15 = .sl false (ks.map encPat)
  e16 : f 16 = encI ks.length
  e17 : f 17 = encI k
  g4 : S.g b4 = some (.arr 1 [encW l])
  fr : ∀ i, i < Sz.n → S.g i = Sz.g i
  n4 : Sz.n ≤ b4 ∧ b4 < S.n
  n8 : Sz.n ≤ b8 ∧ b8 < S.n
  nn : Sz.n ≤ S.n
def AlV (l : List Int) (ks : List Pat) (at_ : Int) (b4 b8 : Nat) (Sz : St) (k : Nat) (S : St) : Prop :=
  ∃ cv, S.g b8 = some (.arr 1 [cv]) ∧ LV S.g cv ((visAll l (ks.take k) [at_]).map encI) ∧ ∀ i ∈ cv.ids, Sz.n ≤ i ∧ i < S.n ∧ i ≠ b4 ∧ i ≠ b8
def AlI (l : List Int) (ks : List Pat) (at_ : Int) (tv : AV) (b4 b8 : Nat) (Sz : St) (k : Nat) (f : AF) (S : St) : Prop := AlS l ks tv b4 b8 Sz k f S ∧ AlV l ks at_ b4 b8 Sz k S ∧ (visAll l (ks.take k) [at_]).length ≤ l.length + 1
theorem all_in {P : Program} (hm : P.follows .mixedOrders = true) {ff f1 fo fo1 : FuncId} (hI1 : Is P f1 (c_reach_walker_all_1 ff) [] 4) (hIo : Is P fo (c_reach_once fo1) [2] 1) (hIo1 : Is P fo1 c_reach_once_1 [] 3) {l : List Int} (hl : l.length ≤ 10000) {ks : List Pat} (hks : ks.length ≤ 1000000000) (hq : ∀ q ∈ ks, FromOk P ff l q)
    {at_ : Int} (h0 : 0 ≤ at_) (h1 : at_ ≤ l.length) {tv : AV} {b4 b8 : Nat} {Sz : St} (hne : b4 ≠ b8) {f : AF} {S : St} {Q : Exit → AF → St → Prop} (h : AlI l ks at_ tv b4 b8 Sz 0 f S) (hk : ∀ f' S', AlI l ks at_ tv b4 b8 Sz ks.length f' S' → Q .normal f' S') : AW P (c_all_in f1 fo) Q f S := by
  simp [AW_seq, AW_reg, AW_regD, AW_block, AW_cond, AW_skip, AW_exit, AW_ret, AW_scp, condR_true, condR_false, AThen_normal, AThen_ret, AThen_exit, ABlock_normal, ABlock_ret, ABlock_exit, AScope_normal, AScope_ret, AScope_exit, RetK_ret, RetK_normal, retAV_one, retAV_two, retAV_three, retAV_nil, RG_nil, RG_op, RG_guard, gdR_tt, gdR_ff, gdR_tf, gdR_ft, gdR_un, RG_call, callQ_clo, contK_ap, opR_some, RD_nil, RD_op0, RD_op1, opD0_some, opD1_some, RD_call, callQD_clo, RD_guard, gdD_tt, gdD_ff, gdD_tf, gdD_ft, gdD_un, psh_nil, psh_cons, Apt_nil, Apt_nilT, Apt_true, Apt_false, Dis_def, runT_val, runT_rd, runT_wr, runT_new, runT_mv, ex, put_some, put_none, ev_t, ev_c, argF_zero, argF_succ, set_g, set_n, cells_v, cells_sl, cells_agg, cells_own, cells_ptr, cells_clo, cells_eptr, cells_mp, putc, exBslice, lfill, exField, exIdxV, exIdxP, exBox, exAlloc, exLoad, exStore, exFieldA, exIdxA, exLen, exPick, exUn, exBeq, exMM, exSeq, seqGo, exExt, binV, intOp, subc, AV.solid, S0, encI, encB, c_all_in]
  refine AW_for ks.length (AlI l ks at_ tv b4 b8 Sz) h ?_
  rintro k f S hk' ⟨h, ⟨cv, g8, hcv, hci⟩, hlen⟩
  have e3 := h.e3
  have e4 := h.e4
  have e8 := h.e8
  have e15 := h.e15
  have e16 := h.e16
  have e17 := h.e17
  by_cases hlt : k < ks.length
  · have hgk : ks[k]? = some ks[k] := List.getElem?_eq_getElem hlt
    have hqk := hq _ (List.getElem_mem hlt)
    have htk : ks.take (k + 1) = ks.take k ++ [ks[k]] := by rw [List.take_add_one, hgk]; rfl
    have hbd := visAll_bd l (ks.take k) [at_] at_ h0 (fun x hx => by simp at hx; subst hx; exact ⟨Int.le_refl _, h1⟩)
    generalize hkk : ks[k] = q at *
    obtain ⟨pk, ps, pg, pks⟩ := q
    simp [AW_seq, AW_reg, AW_regD, AW_block, AW_cond, AW_skip, AW_exit, AW_ret, AW_scp, condR_true, condR_false, AThen_normal, AThen_ret, AThen_exit, ABlock_normal, ABlock_ret, ABlock_exit, AScope_normal, AScope_ret, AScope_exit, RetK_ret, RetK_normal, retAV_one, retAV_two, retAV_three, retAV_nil, RG_nil, RG_op, RG_guard, gdR_tt, gdR_ff, gdR_tf, gdR_ft, gdR_un, RG_call, callQ_clo, contK_ap, opR_some, RD_nil, RD_op0, RD_op1, opD0_some, opD1_some, RD_call, callQD_clo, RD_guard, gdD_tt, gdD_ff, gdD_tf, gdD_ft, gdD_un, psh_nil, psh_cons, Apt_nil, Apt_nilT, Apt_true, Apt_false, Dis_def, runT_val, runT_rd, runT_wr, runT_new, runT_mv, ex, put_some, put_none, ev_t, ev_c, argF_zero, argF_succ, set_g, set_n, cells_v, cells_sl, cells_agg, cells_own, cells_ptr, cells_clo, cells_eptr, cells_mp, putc, exBslice, lfill, exField, exIdxV, exIdxP, exBox, exAlloc, exLoad, exStore, exFieldA, exIdxA, exLen, exPick, exUn, exBeq, exMM, exSeq, seqGo, exExt, binV, intOp, subc, AV.solid, S0, encI, encB, e3, e4, e8, e15, e16, e17, hlt, hgk, hkk, encPat_eq, encIs, encRs]
    have n4 := h.n4
    have n8 := h.n8
    have hnn := h.nn
    generalize hgx : ((({ n := S.n + 1 + 4, g := S.g } : St).set (S.n + 1 + 2) (some (Blk.arr 4 [AV.agg [AV.v (Value.int IntKind.i64 0), AV.sl true [], AV.sl true [], AV.sl true []]]))).set (S.n + 1 + 2)
      (some (Blk.arr 4 [AV.agg [AV.v (Value.int IntKind.i64 pk), AV.sl false (List.map encR ps), AV.sl false (List.map encI pg), AV.sl false (List.map encPat pks)]]))).g = gx
    have hgo : ∀ i, i ≠ S.n + 1 + 2 → gx i = S.g i := fun i hi => by rw [← hgx]; simp [set_g, hi]
    have hg10 : gx (S.n + 1 + 2) = some (.arr 4 [encPat (.mk pk ps pg pks)]) := by rw [← hgx, encPat_eq]; simp [set_g, encI, encRs, encIs]
    have hd : Deed P l.length (.clo f1 [] [.ptr b8 0 0, .ptr b4 0 0, .ptr (S.n + 1 + 2) 0 0]) (⟨S.n + 1 + 4 + 3, gx⟩ : St) ((visAll l (ks.take k) [at_]).flatMap fun a => visits l (.mk pk ps pg pks) a) := by
      refine all_1_deed hm hI1 hqk (cv := cv) (cur := visAll l (ks.take k) [at_]) (by show b8 < S.n + 1 + 4 + 3; omega) (by show b4 < S.n + 1 + 4 + 3; omega) (by show S.n + 1 + 2 < S.n + 1 + 4 + 3; omega) ?_ ?_ hg10 ?_ ?_ (fun x hx => by have := hbd x hx; omega) (by omega)
      · show gx b8 = _; rw [hgo b8 (by omega)]; exact g8
      · show gx b4 = _; rw [hgo b4 (by omega)]; exact h.g4
      · exact hcv.frame (fun i hi => hgo i (by have := hci i hi; omega))
      · intro i hi; have := hci i hi; show i < S.n + 1 + 4 + 3; omega
    refine once_callR hm hIo hIo1 (n := l.length) (by omega) hd (fun S2 v hv hvi hfr hn2 => ?_)
    have hn2' : S.n + 1 + 4 + 3 ≤ S2.n := hn2
    have hvc := hv.cel
    have hvs := hvc.2
    simp only [AV.solid] at hvs
    have g82 : S2.g b8 = some (.arr 1 [cv]) := by rw [hfr b8 (by show b8 < S.n + 1 + 4 + 3; omega)]; show gx b8 = _; rw [hgo b8 (by omega)]; exact g8
    have hcc := hcv.cell
    simp [AW_seq, AW_reg, AW_regD, AW_block, AW_cond, AW_skip, AW_exit, AW_ret, AW_scp, condR_true, condR_false, AThen_normal, AThen_ret, AThen_exit, ABlock_normal, ABlock_ret, ABlock_exit, AScope_normal, AScope_ret, AScope_exit, RetK_ret, RetK_normal, retAV_one, retAV_two, retAV_three, retAV_nil, RG_nil, RG_op, RG_guard, gdR_tt, gdR_ff, gdR_tf, gdR_ft, gdR_un, RG_call, callQ_clo, contK_ap, opR_some, RD_nil, RD_op0, RD_op1, opD0_some, opD1_some, RD_call, callQD_clo, RD_guard, gdD_tt, gdD_ff, gdD_tf, gdD_ft, gdD_un, psh_nil, psh_cons, Apt_nil, Apt_nilT, Apt_true, Apt_false, Dis_def, runT_val, runT_rd, runT_wr, runT_new, runT_mv, ex, put_some, put_none, ev_t, ev_c, argF_zero, argF_succ, set_g, set_n, cells_v, cells_sl, cells_agg, cells_own, cells_ptr, cells_clo, cells_eptr, cells_mp, putc, exBslice, lfill, exField, exIdxV, exIdxP, exBox, exAlloc, exLoad, exStore, exFieldA, exIdxA, exLen, exPick, exUn, exBeq, exMM, exSeq, seqGo, exExt, binV, intOp, subc, AV.solid, S0, encI, encB, e3, e4, e8, e15, e16, e17, g82, hvc.1, hvs, hcc.1]
    rw [wrap_in _ (by omega)]
    have hS : ∀ x i, i ≠ b8 → (({ n := S2.n, g := S2.g } : St).set b8 x).g i = S2.g i := fun x i hi => by simp [set_g, hi]
    have hlow : ∀ i, i < S.n → S2.g i = S.g i := fun i hi => by rw [hfr i (by show i < S.n + 1 + 4 + 3; omega)]; exact hgo i (by omega)
    have hvs2 : visAll l (ks.take (k + 1)) [at_] = ddp ((visAll l (ks.take k) [at_]).flatMap fun a => visits l (.mk pk ps pg pks) a) := by rw [htk]; exact visAll_snoc l _ _ _
    refine ⟨hlt, ⟨?_, ?_, ?_, ?_, ?_, ?_, ?_, fun i hi => ?_, ⟨n4.1, ?_⟩, ⟨n8.1, ?_⟩, ?_⟩, ⟨v, ?_, ?_, fun i hi => ?_⟩, ?_⟩
    · simp [put_some, e3]
    · simp [put_some, e4]
    · simp [put_some, e8]
    · simp [put_some, e15]
    · simp [put_some, e16]
    · simp [put_some, encI]
    · refine Eq.trans (hS _ b4 hne) ?_
      rw [hlow b4 n4.2]; exact h.g4
    · refine Eq.trans (hS _ i (by omega)) ?_
      rw [hlow i (by omega)]; exact h.fr i hi
    · simp; omega
    · simp; omega
    · simp; omega
    · simp [set_g]
    · rw [hvs2]
      exact .inr (hv.frame (fun i hi => hS _ i (by have := hvi i hi; have h3 : S.n + 1 + 4 + 3 ≤ i := this.1; omega)))
    · have := hvi i hi
      have h3 : S.n + 1 + 4 + 3 ≤ i := this.1
      exact ⟨by omega, by simp; omega, by omega, by omega⟩
    · rw [hvs2]
      exact ddp_len (fun x hx => by
        obtain ⟨c, hc, hx⟩ := List.mem_flatMap.mp hx
        have h5 := hbd c hc
        have h6 := visits_bd l _ c (by omega) h5.2 x hx
        omega)
  · have hke : k = ks.length := by omega
    subst hke
    simp [AW_seq, AW_reg, AW_regD, AW_block, AW_cond, AW_skip, AW_exit, AW_ret, AW_scp, condR_true, condR_false, AThen_normal, AThen_ret, AThen_exit, ABlock_normal, ABlock_ret, ABlock_exit, AScope_normal, AScope_ret, AScope_exit, RetK_ret, RetK_normal, retAV_one, retAV_two, retAV_three, retAV_nil, RG_nil, RG_op, RG_guard, gdR_tt, gdR_ff, gdR_tf, gdR_ft, gdR_un, RG_call, callQ_clo, contK_ap, opR_some, RD_nil, RD_op0, RD_op1, opD0_some, opD1_some, RD_call, callQD_clo, RD_guard, gdD_tt, gdD_ff, gdD_tf, gdD_ft, gdD_un, psh_nil, psh_cons, Apt_nil, Apt_nilT, Apt_true, Apt_false, Dis_def, runT_val, runT_rd, runT_wr, runT_new, runT_mv, ex, put_some, put_none, ev_t, ev_c, argF_zero, argF_succ, set_g, set_n, cells_v, cells_sl, cells_agg, cells_own, cells_ptr, cells_clo, cells_eptr, cells_mp, putc, exBslice, lfill, exField, exIdxV, exIdxP, exBox, exAlloc, exLoad, exStore, exFieldA, exIdxA, exLen, exPick, exUn, exBeq, exMM, exSeq, seqGo, exExt, binV, intOp, subc, AV.solid, S0, encI, encB, e16, e17, hlt]
    refine hk _ _ ⟨⟨?_, ?_, ?_, ?_, ?_, ?_, h.g4, h.fr, ⟨h.n4.1, ?_⟩, ⟨h.n8.1, ?_⟩, ?_⟩, ⟨cv, g8, hcv.frame (fun _ _ => rfl), fun i hi => ?_⟩, hlen⟩
    · simp [put_some, e3]
    · simp [put_some, e4]
    · simp [put_some, e8]
    · simp [put_some, e15]
    · simp [put_some, e16]
    · simp [put_some, e17]
    · have := h.n4; simp; omega
    · have := h.n8; simp; omega
    · have := h.nn; simp; omega
    · have := hci i hi
      exact ⟨this.1, by simp; omega, this.2.2⟩
def AoI (tv cv : AV) (cur : List Int) (J : List Int → List Nat → St → Prop) (L : List Int) (A : List Nat) (S1 : St) (k : Nat) (f : AF) (S : St) : Prop :=
  f 3 = tv ∧ f 24 = cv ∧ f 25 = encI cur.length ∧ f 26 = encI k ∧ ∃ A', J (L ++ cur.take k) A' S ∧ Ext A A' S1 S
theorem all_out {P : Program} {n : Nat} {tv cv : AV} {cur : List Int} {J : List Int → List Nat → St → Prop} {L : List Int} {A : List Nat} {f : AF} {S : St} {Q : Exit → AF → St → Prop} (hT : Tlr P n tv J) (hJ : J L A S) (e3 : f 3 = tv) (e24 : f 24 = cv) (e25 : f 25 = encI cur.length) (e26 : f 26 = encI 0)
    (hcv : LV S.g cv (cur.map encI)) (hci : ∀ i ∈ cv.ids, i < S.n ∧ i ∉ A) (hcur : ∀ x ∈ cur, 0 ≤ x ∧ x ≤ (n : Int)) (hlen : cur.length ≤ 1000000) (hk : ∀ f' S' A', J (L ++ cur) A' S' → Ext A A' S S' → Q .normal f' S') : AW P c_all_out Q f S := by
  obtain ⟨ft, first, cap, htv, hcall⟩ := hT.call
  simp [AW_seq, AW_reg, AW_regD, AW_block, AW_cond, AW_skip, AW_exit, AW_ret, AW_scp, condR_true, condR_false, AThen_normal, AThen_ret, AThen_exit, ABlock_normal, ABlock_ret, ABlock_exit, AScope_normal, AScope_ret, AScope_exit, RetK_ret, RetK_normal, retAV_one, retAV_two, retAV_three, retAV_nil, RG_nil, RG_op, RG_guard, gdR_tt, gdR_ff, gdR_tf, gdR_ft, gdR_un, RG_call, callQ_clo, contK_ap, opR_some, RD_nil, RD_op0, RD_op1, opD0_some, opD1_some, RD_call, callQD_clo, RD_guard, gdD_tt, gdD_ff, gdD_tf, gdD_ft, gdD_un, psh_nil, psh_cons, Apt_nil, Apt_nilT, Apt_true, Apt_false, Dis_def, runT_val, runT_rd, runT_wr, runT_new, runT_mv, ex, put_some, put_none, ev_t, ev_c, argF_zero, argF_succ, set_g, set_n, cells_v, cells_sl, cells_agg, cells_own, cells_ptr, cells_clo, cells_eptr, cells_mp, putc, exBslice, lfill, exField, exIdxV, exIdxP, exBox, exAlloc, exLoad, exStore, exFieldA, exIdxA, exLen, exPick, exUn, exBeq, exMM, exSeq, seqGo, exExt, binV, intOp, subc, AV.solid, S0, encI, encB, c_all_out]
  refine AW_for cur.length (AoI tv cv cur J L A S) ⟨e3, e24, e25, e26, A, by simpa using hJ, .refl _ _⟩ ?_
  rintro k f S2 hk' ⟨e3, e24, e25, e26, A2, hJ2, hE⟩
  by_cases hlt : k < cur.length
  · have hcv2 : LV S2.g cv (cur.map encI) := hcv.frame (fun i hi => hE.fr i (hci i hi).1 (hci i hi).2)
    obtain ⟨pp, hi1, hi2⟩ := hcv2.idx (i := k) (by simpa using hlt) (by simp [encI, AV.cells]) (by simp [encI, AV.cells])
    simp only [List.getElem_map, encI, exLoad, subc] at hi2
    simp only [exIdxA] at hi1
    have hb := hcur _ (List.getElem_mem hlt)
    have htk : cur.take (k + 1) = cur.take k ++ [cur[k]] := by rw [List.take_add_one, List.getElem?_eq_getElem hlt]; rfl
    simp [AW_seq, AW_reg, AW_regD, AW_block, AW_cond, AW_skip, AW_exit, AW_ret, AW_scp, condR_true, condR_false, AThen_normal, AThen_ret, AThen_exit, ABlock_normal, ABlock_ret, ABlock_exit, AScope_normal, AScope_ret, AScope_exit, RetK_ret, RetK_normal, retAV_one, retAV_two, retAV_three, retAV_nil, RG_nil, RG_op, RG_guard, gdR_tt, gdR_ff, gdR_tf, gdR_ft, gdR_un, RG_call, callQ_clo, contK_ap, opR_some, RD_nil, RD_op0, RD_op1, opD0_some, opD1_some, RD_call, callQD_clo, RD_guard, gdD_tt, gdD_ff, gdD_tf, gdD_ft, gdD_un, psh_nil, psh_cons, Apt_nil, Apt_nilT, Apt_true, Apt_false, Dis_def, runT_val, runT_rd, runT_wr, runT_new, runT_mv, ex, put_some, put_none, ev_t, ev_c, argF_zero, argF_succ, set_g, set_n, cells_v, cells_sl, cells_agg, cells_own, cells_ptr, cells_clo, cells_eptr, cells_mp, putc, exBslice, lfill, exField, exIdxV, exIdxP, exBox, exAlloc, exLoad, exStore, exFieldA, exIdxA, exLen, exPick, exUn, exBeq, exMM, exSeq, seqGo, exExt, binV, intOp, subc, AV.solid, S0, encI, encB, e3, e24, e25, e26, hlt, hi1, hi2, htv]
    have hc2 := hcall (L ++ cur.take k) A2
    simp only [encI] at hc2
    refine hc2 _ _ _ hb.1 hb.2 (hT.keep hJ2 (fun _ _ => rfl) (by show S2.n ≤ _; simp; omega)) fun S3 A3 hJ3 hE3 => ?_
    have hn3 := hE3.nn
    simp [AW_seq, AW_reg, AW_regD, AW_block, AW_cond, AW_skip, AW_exit, AW_ret, AW_scp, condR_true, condR_false, AThen_normal, AThen_ret, AThen_exit, ABlock_normal, ABlock_ret, ABlock_exit, AScope_normal, AScope_ret, AScope_exit, RetK_ret, RetK_normal, retAV_one, retAV_two, retAV_three, retAV_nil, RG_nil, RG_op, RG_guard, gdR_tt, gdR_ff, gdR_tf, gdR_ft, gdR_un, RG_call, callQ_clo, contK_ap, opR_some, RD_nil, RD_op0, RD_op1, opD0_some, opD1_some, RD_call, callQD_clo, RD_guard, gdD_tt, gdD_ff, gdD_tf, gdD_ft, gdD_un, psh_nil, psh_cons, Apt_nil, Apt_nilT, Apt_true, Apt_false, Dis_def, runT_val, runT_rd, runT_wr, runT_new, runT_mv, ex, put_some, put_none, ev_t, ev_c, argF_zero, argF_succ, set_g, set_n, cells_v, cells_sl, cells_agg, cells_own, cells_ptr, cells_clo, cells_eptr, cells_mp, putc, exBslice, lfill, exField, exIdxV, exIdxP, exBox, exAlloc, exLoad, exStore, exFieldA, exIdxA, exLen, exPick, exUn, exBeq, exMM, exSeq, seqGo, exExt, binV, intOp, subc, AV.solid, S0, encI, encB, e3, e24, e25, e26]
    rw [wrap_in _ (by omega)]
    refine ⟨hlt, ?_, ?_, ?_, ?_, A3, ?_, ?_⟩
    · simp [put_some, e3, htv]
    · simp [put_some, e24]
    · simp [put_some, e25]
    · simp [put_some, encI]
    · rw [htk, ← List.append_assoc]
      exact hT.keep hJ3 (fun _ _ => rfl) (by simp)
    · refine hE.trans ⟨fun i hi => ?_, fun i hi hi2 => ?_, ?_⟩
      · rcases hE3.nw i hi with h1 | h1
        · exact .inl h1
        · right
          refine Nat.le_trans ?_ h1
          simp; omega
      · exact hE3.fr i (by refine Nat.lt_of_lt_of_le hi ?_; simp; omega) hi2
      · refine Nat.le_trans ?_ (Nat.le_trans hn3 ?_)
        · simp; omega
        · simp
  · have hke : k = cur.length := by omega
    subst hke
    rw [List.take_length] at hJ2
    simp [AW_seq, AW_reg, AW_regD, AW_block, AW_cond, AW_skip, AW_exit, AW_ret, AW_scp, condR_true, condR_false, AThen_normal, AThen_ret, AThen_exit, ABlock_normal, ABlock_ret, ABlock_exit, AScope_normal, AScope_ret, AScope_exit, RetK_ret, RetK_normal, retAV_one, retAV_two, retAV_three, retAV_nil, RG_nil, RG_op, RG_guard, gdR_tt, gdR_ff, gdR_tf, gdR_ft, gdR_un, RG_call, callQ_clo, contK_ap, opR_some, RD_nil, RD_op0, RD_op1, opD0_some, opD1_some, RD_call, callQD_clo, RD_guard, gdD_tt, gdD_ff, gdD_tf, gdD_ft, gdD_un, psh_nil, psh_cons, Apt_nil, Apt_nilT, Apt_true, Apt_false, Dis_def, runT_val, runT_rd, runT_wr, runT_new, runT_mv, ex, put_some, put_none, ev_t, ev_c, argF_zero, argF_succ, set_g, set_n, cells_v, cells_sl, cells_agg, cells_own, cells_ptr, cells_clo, cells_eptr, cells_mp, putc, exBslice, lfill, exField, exIdxV, exIdxP, exBox, exAlloc, exLoad, exStore, exFieldA, exIdxA, exLen, exPick, exUn, exBeq, exMM, exSeq, seqGo, exExt, binV, intOp, subc, AV.solid, S0, encI, encB, e3, e24, e25, e26, hlt]
    refine hk _ _ A2 (hT.keep hJ2 (fun _ _ => rfl) (by simp)) ⟨hE.nw, hE.fr, by have := hE.nn; simp; omega⟩
theorem all_callR {P : Program} (hm : P.follows .mixedOrders = true) {ff fa f1 fo fo1 : FuncId} (hI : Is P fa (c_reach_walker_all f1 fo) [] 4) (hI1 : Is P f1 (c_reach_walker_all_1 ff) [] 4) (hIo : Is P fo (c_reach_once fo1) [2] 1) (hIo1 : Is P fo1 c_reach_once_1 [] 3) {l : List Int} (hl : l.length ≤ 10000) {ks : List Pat} (hks : ks.length ≤ 1000000000) (hq : ∀ q ∈ ks, FromOk P ff l q)
    {at_ : Int} (h0 : 0 ≤ at_) (h1 : at_ ≤ l.length) {tv : AV} {J : List Int → List Nat → St → Prop} {L : List Int} {A : List Nat} {S : St} {K : AV → St → Prop} (hT : Tlr P l.length tv J) (hJ : J L A S)
    (hk : ∀ S' A', J (L ++ visAll l ks [at_]) A' S' → Ext A A' S S' → K (.tup []) S') : CallR P fa [encW l, .sl false (ks.map encPat), encI at_, tv] S K := by
  refine hI.callR hm rfl ?_
  have hb1 : ¬ S.n + 3 = S.n := by omega
  have hlt := hT.lt hJ
  simp [AW_seq, AW_reg, AW_regD, AW_block, AW_cond, AW_skip, AW_exit, AW_ret, AW_scp, condR_true, condR_false, AThen_normal, AThen_ret, AThen_exit, ABlock_normal, ABlock_ret, ABlock_exit, AScope_normal, AScope_ret, AScope_exit, RetK_ret, RetK_normal, retAV_one, retAV_two, retAV_three, retAV_nil, RG_nil, RG_op, RG_guard, gdR_tt, gdR_ff, gdR_tf, gdR_ft, gdR_un, RG_call, callQ_clo, contK_ap, opR_some, RD_nil, RD_op0, RD_op1, opD0_some, opD1_some, RD_call, callQD_clo, RD_guard, gdD_tt, gdD_ff, gdD_tf, gdD_ft, gdD_un, psh_nil, psh_cons, Apt_nil, Apt_nilT, Apt_true, Apt_false, Dis_def, runT_val, runT_rd, runT_wr, runT_new, runT_mv, ex, put_some, put_none, ev_t, ev_c, argF_zero, argF_succ, set_g, set_n, cells_v, cells_sl, cells_agg, cells_own, cells_ptr, cells_clo, cells_eptr, cells_mp, putc, exBslice, lfill, exField, exIdxV, exIdxP, exBox, exAlloc, exLoad, exStore, exFieldA, exIdxA, exLen, exPick, exUn, exBeq, exMM, exSeq, seqGo, exExt, binV, intOp, subc, AV.solid, S0, encI, encB, c_reach_walker_all, encW, encIs]
  refine all_in hm hI1 hIo hIo1 hl hks hq h0 h1 (tv := tv) (b4 := S.n) (b8 := S.n + 1 + 2) (Sz := S) (by omega) ⟨⟨?_, ?_, ?_, ?_, ?_, ?_, ?_, fun i hi => ?_, ⟨Nat.le_refl _, ?_⟩, ⟨by omega, ?_⟩, ?_⟩, ⟨.sl true [encI at_], ?_, ?_, by simp [AV.ids]⟩, ?_⟩ ?_
  · simp [put_some, argF_zero, argF_succ]
  · simp [put_some]
  · simp [put_some]
  · simp [put_some]
  · simp [put_some, encI]
  · simp [put_some, encI]
  · simp only [set_g]
    rw [if_neg (by omega), if_neg (by omega), if_pos trivial]; rfl
  · simp only [set_g]
    rw [if_neg (by omega), if_neg (by omega), if_neg (by omega)]
  · show S.n < S.n + 1 + 4 + 3; omega
  · show S.n + 1 + 2 < S.n + 1 + 4 + 3; omega
  · show S.n ≤ S.n + 1 + 4 + 3; omega
  · simp [set_g, encI]
  · exact .inl ⟨true, by simp [visAll]⟩
  · simp [visAll]
  · rintro f S2 ⟨h, ⟨cv, g8, hcv, hci⟩, hlen⟩
    rw [List.take_length] at hcv hlen
    have e3 := h.e3
    have e8 := h.e8
    have hcc := hcv.cell
    have hcs := hcc.2
    simp only [AV.solid] at hcs
    have hlc := hcv.len
    simp only [List.length_map, exLen] at hlc
    have hnn := h.nn
    simp [AW_seq, AW_reg, AW_regD, AW_block, AW_cond, AW_skip, AW_exit, AW_ret, AW_scp, condR_true, condR_false, AThen_normal, AThen_ret, AThen_exit, ABlock_normal, ABlock_ret, ABlock_exit, AScope_normal, AScope_ret, AScope_exit, RetK_ret, RetK_normal, retAV_one, retAV_two, retAV_three, retAV_nil, RG_nil, RG_op, RG_guard, gdR_tt, gdR_ff, gdR_tf, gdR_ft, gdR_un, RG_call, callQ_clo, contK_ap, opR_some, RD_nil, RD_op0, RD_op1, opD0_some, opD1_some, RD_call, callQD_clo, RD_guard, gdD_tt, gdD_ff, gdD_tf, gdD_ft, gdD_un, psh_nil, psh_cons, Apt_nil, Apt_nilT, Apt_true, Apt_false, Dis_def, runT_val, runT_rd, runT_wr, runT_new, runT_mv, ex, put_some, put_none, ev_t, ev_c, argF_zero, argF_succ, set_g, set_n, cells_v, cells_sl, cells_agg, cells_own, cells_ptr, cells_clo, cells_eptr, cells_mp, putc, exBslice, lfill, exField, exIdxV, exIdxP, exBox, exAlloc, exLoad, exStore, exFieldA, exIdxA, exLen, exPick, exUn, exBeq, exMM, exSeq, seqGo, exExt, binV, intOp, subc, AV.solid, S0, encI, encB, e3, e8, g8, hcc.1, hcs, hlc]
    have hbd := visAll_bd l ks [at_] at_ h0 (fun x hx => by simp at hx; subst hx; exact ⟨Int.le_refl _, h1⟩)
    refine all_out (n := l.length) (cur := visAll l ks [at_]) (cv := cv) hT (A := A) (L := L) (hT.keep hJ (fun i hi => h.fr i (hlt i hi)) (by simp; omega)) ?_ ?_ ?_ ?_ (hcv.frame (fun _ _ => rfl)) (fun i hi => ?_) (fun x hx => by have := hbd x hx; omega) (by omega) (fun f3 S3 A3 hJ3 hE3 => ?_)
    · simp [put_some, e3]
    · simp [put_some]
    · simp [put_some, encI]
    · simp [put_some, encI]
    · have := hci i hi
      exact ⟨by simp; omega, fun h2 => by have := hlt i h2; omega⟩
    · have hn3 := hE3.nn
      have hn3' : S2.n + 3 ≤ S3.n := hn3
      show K (.tup []) _
      refine hk _ A3 (hT.keep hJ3 (fun _ _ => rfl) (Nat.le_refl _)) ⟨fun i hi => ?_, fun i hi hi2 => ?_, ?_⟩
      · rcases hE3.nw i hi with h2 | h2
        · exact .inl h2
        · exact .inr (by have h3 : S2.n + 3 ≤ i := h2; omega)
      · exact (hE3.fr i (by show i < S2.n + 3; omega) hi2).trans (h.fr i hi)
      · omega
end Go.Rf


/- Own work: a form once, or as often as one likes. -/
set_option linter.unusedVariables false
set_option linter.unusedSimpArgs false
namespace Go.Rf
open Go.RowKit

def c_reach_walker_again_1 (f_reach_walker_from : FuncId) : AC :=
  (.regS [
   (0, ⟨(some 5), .load (some 1) (.t 1), none, none⟩, []),
   (1, ⟨(some 6), .fieldA 3 (.t 2), none, none⟩, []),
   (2, ⟨(some 7), .load none (.t 6), none, none⟩, []),
   (3, ⟨(some 8), .idxA 4 (.t 7) (.c (.v (.int .i64 0))), none, none⟩, []),
   (4, ⟨(some 9), .load (some 4) (.t 8), none, none⟩, []),
   (5, ⟨(some 10), .load none (.t 3), none, none⟩, []),
   (6, ⟨(some 11), .mv (.t 0), none, none⟩, []),
   (7, ⟨(some 12), .mv (.c .junk), none, (some ((.c (.clo f_reach_walker_from [] [])), [(.t 5), (.t 9), (.t 10), (.t 11)]))⟩, [])])
def c_ag_out : AC :=
  (.block 0 (.loop (.seq (.reg none [
      ⟨(some 26), .bin .lss (.t 25) (.t 24), none, none⟩])
     (.seq (.cond (.t 26) .skip (.exit 0))
     (.seq (.block 1 (.seq (.reg none [
       ⟨(some 27), .idxA 1 (.t 23) (.t 25), none, none⟩,
       ⟨(some 28), .load none (.t 27), none, none⟩,
       ⟨(some 10), .mv (.t 28), none, none⟩])
      (.reg none [
       ⟨(some 29), .mv (.t 3), none, none⟩,
       ⟨(some 30), .mv (.t 10), none, none⟩,
       ⟨(some 31), .mv (.c .junk), none, (some ((.t 29), [(.t 30)]))⟩])))
     (.reg none [
      ⟨(some 32), .bin .add (.t 25) (.c (.v (.int .i64 1))), none, none⟩,
      ⟨(some 25), .mv (.t 32), none, none⟩]))))))
def c_ag_loop (f_reach_walker_again_2 f_reach_walker_from : FuncId) : AC :=
  (.block 2 (.loop (.seq (.seq (.reg none [
     ⟨(some 33), .mv (.t 11), none, none⟩,
     ⟨(some 34), .load none (.t 8), none, none⟩,
     ⟨(some 35), .len (.t 34), none, none⟩,
     ⟨(some 36), .bin .lss (.t 33) (.t 35), none, none⟩])
    (.cond (.t 36) .skip (.exit 2)))
    (.seq (.block 3 (.seq (.reg none [
      ⟨(some 39), .mv (.t 3), none, none⟩,
      ⟨(some 40), .load none (.t 8), none, none⟩,
      ⟨(some 41), .mv (.t 11), none, none⟩,
      ⟨(some 42), .idxA 1 (.t 40) (.t 41), none, none⟩,
      ⟨(some 43), .load none (.t 42), none, none⟩,
      ⟨(some 44), .mv (.c .junk), none, (some ((.t 39), [(.t 43)]))⟩])
     (.regS [
      (0, ⟨(some 45), .load (some 1) (.t 4), none, none⟩, []),
      (1, ⟨(some 46), .fieldA 3 (.t 5), none, none⟩, []),
      (2, ⟨(some 47), .load none (.t 46), none, none⟩, []),
      (3, ⟨(some 48), .idxA 4 (.t 47) (.c (.v (.int .i64 0))), none, none⟩, []),
      (4, ⟨(some 49), .load (some 4) (.t 48), none, none⟩, []),
      (5, ⟨(some 50), .load none (.t 8), none, none⟩, []),
      (6, ⟨(some 51), .mv (.t 11), none, none⟩, []),
      (7, ⟨(some 52), .idxA 1 (.t 50) (.t 51), none, none⟩, []),
      (8, ⟨(some 53), .load none (.t 52), none, none⟩, []),
      (9, ⟨(some 54), .mkf f_reach_walker_again_2 [] [(.t 8)], none, none⟩, []),
      (10, ⟨(some 55), .mv (.c .junk), none, (some ((.c (.clo f_reach_walker_from [] [])), [(.t 45), (.t 49), (.t 53), (.t 54)]))⟩, [])])))
    (.reg none [
     ⟨(some 37), .mv (.t 11), none, none⟩,
     ⟨(some 38), .bin .add (.t 37) (.c (.v (.int .i64 1))), none, none⟩,
     ⟨(some 11), .mv (.t 38), none, none⟩])))))
def c_ag_tail (f_reach_walker_again_1 f_reach_once f_reach_walker_again_2 f_reach_walker_from : FuncId) : AC :=
  (.seq (.reg none [
   ⟨(some 18), .mkf f_reach_walker_again_1 [] [(.t 4), (.t 5), (.t 6)], none, none⟩,
   ⟨(some 19), .mv (.c .junk), none, (some ((.c (.clo f_reach_once [] [])), [(.t 18)]))⟩,
   ⟨(some 8), .alloc (.sl true []) 1, none, none⟩,
   ⟨none, .store 1 (.t 8) (.t 19), none, none⟩])
  (.seq (.seq (.reg none [
   ⟨(some 20), .fieldA 0 (.t 5), none, none⟩,
   ⟨(some 21), .load none (.t 20), none, none⟩,
   ⟨(some 22), .bin .eql (.t 21) (.c (.v (.int .i64 7))), none, none⟩])
  (.cond (.t 22) (.seq (.seq (.reg none [
    ⟨(some 23), .load none (.t 8), none, none⟩,
    ⟨(some 24), .len (.t 23), none, none⟩,
    ⟨(some 25), .mv (.c (.v (.int .i64 0))), none, none⟩])
   c_ag_out)
   .ret) .skip))
  (.seq (.reg none [
   ⟨(some 11), .mv (.c (.v (.int .i64 0))), none, none⟩])
  (c_ag_loop f_reach_walker_again_2 f_reach_walker_from))))
def c_reach_walker_again (f_reach_walker_again_1 f_reach_once f_reach_walker_again_2 f_reach_walker_from : FuncId) : AC :=
  (.seq (.reg none [
   ⟨(some 4), .box 1 (.t 0), none, none⟩,
   ⟨(some 5), .box 4 (.t 1), none, none⟩,
   ⟨(some 6), .box 1 (.t 2), none, none⟩])
  (.seq (.seq (.reg none [
   ⟨(some 12), .fieldA 0 (.t 5), none, none⟩,
   ⟨(some 13), .load none (.t 12), none, none⟩,
   ⟨(some 14), .bin .neq (.t 13) (.c (.v (.int .i64 6))), none, none⟩])
  (.cond (.t 14) (.reg none [
    ⟨(some 15), .mv (.t 3), none, none⟩,
    ⟨(some 16), .load none (.t 6), none, none⟩,
    ⟨(some 17), .mv (.c .junk), none, (some ((.t 15), [(.t 16)]))⟩]) .skip))
  (c_ag_tail f_reach_walker_again_1 f_reach_once f_reach_walker_again_2 f_reach_walker_from)))
def c_reach_walker_again_2 (f_slices_Contains_Sint_int_ : FuncId) : AC :=
  (.seq (.reg none [
   ⟨(some 3), .load none (.t 1), none, none⟩,
   ⟨(some 4), .mv (.t 0), none, none⟩,
   ⟨(some 5), .mv (.c .junk), none, (some ((.c (.clo f_slices_Contains_Sint_int_ [] [])), [(.t 3), (.t 4)]))⟩,
   ⟨(some 6), .un .not (.t 5), none, none⟩])
  (.cond (.t 6) (.reg none [
    ⟨(some 7), .load none (.t 1), none, none⟩,
    ⟨(some 8), .mv (.t 0), none, none⟩,
    ⟨(some 9), .bslice 1 1 (.v (.int .i64 0)) [(0, (.t 8))], none, none⟩,
    ⟨(some 10), .app 1 8 (.t 7) (.t 9), none, none⟩,
    ⟨none, .store 1 (.t 1) (.t 10), none, none⟩]) .skip))
theorem again_1_deed {P : Program} (hm : P.follows .mixedOrders = true) {ff f1 : FuncId} (hI : IsS P f1 (c_reach_walker_again_1 ff) [] 4) {l : List Int} {q : Pat} (hq : FromOk P ff l q) {k : Int} {ps : List Rg} {pg : List Int} {at_ : Int} (h0 : 0 ≤ at_) (h1 : at_ ≤ l.length) {S : St} {b4 b5 b6 : Nat} (l4 : b4 < S.n) (l5 : b5 < S.n) (l6 : b6 < S.n)
    (g4 : S.g b4 = some (.arr 1 [encW l])) (g5 : S.g b5 = some (.arr 4 [encPat (.mk k ps pg [q])])) (g6 : S.g b6 = some (.arr 1 [encI at_])) :
    Deed P l.length (.clo f1 [] [.ptr b4 0 0, .ptr b5 0 0, .ptr b6 0 0]) S (visits l q at_) := by
  refine ⟨f1, [], _, rfl, fun S1 hn hg tv J L A K hT hJ hA hk => ?_⟩
  refine hI.byC hm rfl ?_
  have g4' := (hg b4 l4).trans g4
  have g5' := (hg b5 l5).trans g5
  have g6' := (hg b6 l6).trans g6
  obtain ⟨qk, qs, qg, qks⟩ := q
  have hq2 := hq
  unfold FromOk at hq2
  simp only [encPat_eq, encW, encIs, encI, encRs, List.map_cons, List.map_nil] at hq2 g4' g5' g6'
  simp [AW_seq, AW_reg, AW_regD, AW_block, AW_cond, AW_skip, AW_exit, AW_ret, AW_scp, condR_true, condR_false, AThen_normal, AThen_ret, AThen_exit, ABlock_normal, ABlock_ret, ABlock_exit, AScope_normal, AScope_ret, AScope_exit, RetK_ret, RetK_normal, retAV_one, retAV_two, retAV_three, retAV_nil, RG_nil, RG_op, RG_guard, gdR_tt, gdR_ff, gdR_tf, gdR_ft, gdR_un, RG_call, callQ_clo, contK_ap, opR_some, RD_nil, RD_op0, RD_op1, opD0_some, opD1_some, RD_call, callQD_clo, RD_guard, gdD_tt, gdD_ff, gdD_tf, gdD_ft, gdD_un, psh_nil, psh_cons, Apt_nil, Apt_nilT, Apt_true, Apt_false, Dis_def, runT_val, runT_rd, runT_wr, runT_new, runT_mv, ex, put_some, put_none, ev_t, ev_c, argF_zero, argF_succ, set_g, set_n, cells_v, cells_sl, cells_agg, cells_own, cells_ptr, cells_clo, cells_eptr, cells_mp, putc, exBslice, lfill, exField, exIdxV, exIdxP, exBox, exAlloc, exLoad, exStore, exFieldA, exIdxA, exLen, exPick, exUn, exBeq, exMM, exSeq, seqGo, exExt, binV, intOp, subc, AV.solid, S0, encI, encB, c_reach_walker_again_1, AW_regS, RSp_nil, RSp_op, opS_some, RSp_call, callS_clo, Kept_nil, g4', g5', g6']
  refine hq2 _ _ J L A _ _ h0 h1 hT (hT.keep hJ (fun _ _ => rfl) (by show S1.n ≤ _; simp)) fun S3 A3 hJ3 hE3 => ?_
  have hn3 := hE3.nn
  have hn3' : S1.n + 8 ≤ S3.n := hn3
  refine ⟨[], rfl, hk _ A3 hJ3 ⟨fun i hi => ?_, fun i hi hi2 => ?_, by omega⟩⟩
  · rcases hE3.nw i hi with h2 | h2
    · exact .inl h2
    · exact .inr (by have h3 : S1.n + 8 ≤ i := h2; omega)
  · exact hE3.fr i (by show i < S1.n + 8; omega) hi2
def J2 (n : Nat) (met : List Int) (b8 : Nat) (L : List Int) (A : List Nat) (S : St) : Prop :=
  ∃ cv, A = b8 :: cv.ids ∧ S.g b8 = some (.arr 1 [cv]) ∧ Vec S.g cv 1 ((addA met L).map encI) ∧ b8 < S.n ∧ (∀ i ∈ cv.ids, i < S.n ∧ i ≠ b8) ∧ (∀ x ∈ L, 0 ≤ x ∧ x ≤ (n : Int)) ∧ (∀ x ∈ met, 0 ≤ x ∧ x ≤ (n : Int)) ∧ met.Nodup
theorem addA_len {n : Nat} {met L : List Int} (hd : met.Nodup) (h1 : ∀ x ∈ met, 0 ≤ x ∧ x ≤ (n : Int)) (h2 : ∀ x ∈ L, 0 ≤ x ∧ x ≤ (n : Int)) : (addA met L).length ≤ n + 1 :=
  nodup_len (n + 1) (addA_nodup hd) (fun x hx => by
    rcases mem_addA.mp hx with hx | hx
    · have := h1 x hx; omega
    · have := h2 x hx; omega)
theorem again_2_tlr {P : Program} (hm : P.follows .mixedOrders = true) {f2 fc : FuncId} (hI : Is P f2 (c_reach_walker_again_2 fc) [] 2) (hc : ∀ (l : List Int) x, Len l → PureC P fc [encIs l, encI x] (encB (l.contains x))) {n : Nat} (hn : n ≤ 10000) (met : List Int) (b8 : Nat) :
    Tlr P n (.clo f2 [] [.ptr b8 0 0]) (J2 n met b8) := by
  refine ⟨?_, ?_, f2, [], _, rfl, ?_⟩
  · rintro L A S S' ⟨cv, rfl, g8, hv, l8, hi, hb⟩ hg hnn
    exact ⟨cv, rfl, by rw [hg b8 (by simp)]; exact g8, hv.frame (fun i h => hg i (by simp [h])), by omega, fun i h => by have := hi i h; exact ⟨by omega, this.2⟩, hb⟩
  · rintro L A S ⟨cv, rfl, g8, hv, l8, hi, hb⟩ i h
    simp only [List.mem_cons] at h
    rcases h with rfl | h
    · exact l8
    · exact (hi i h).1
  · rintro L A S j K h0 hj ⟨cv, rfl, g8, hv, l8, hi, hb, hb2, hd⟩ hk
    refine hI.callR hm rfl ?_
    have hlen := addA_len hd hb2 hb
    have hcc := hv.cel
    have hcs := hcc.2
    simp only [AV.solid] at hcs
    have hb' : ∀ x ∈ L ++ [j], 0 ≤ x ∧ x ≤ (n : Int) := fun x hx => by
      rcases List.mem_append.mp hx with hx | hx
      · exact hb x hx
      · simp at hx; subst hx; exact ⟨h0, hj⟩
    have hsn : addA met (L ++ [j]) = if (addA met L).contains j = true then addA met L else addA met L ++ [j] := by rw [addA_append, addA_one]
    have k1 := hc (addA met L) j (by unfold Len; omega)
    simp [AW_seq, AW_reg, AW_regD, AW_block, AW_cond, AW_skip, AW_exit, AW_ret, AW_scp, condR_true, condR_false, AThen_normal, AThen_ret, AThen_exit, ABlock_normal, ABlock_ret, ABlock_exit, AScope_normal, AScope_ret, AScope_exit, RetK_ret, RetK_normal, retAV_one, retAV_two, retAV_three, retAV_nil, RG_nil, RG_op, RG_guard, gdR_tt, gdR_ff, gdR_tf, gdR_ft, gdR_un, RG_call, callQ_clo, contK_ap, opR_some, RD_nil, RD_op0, RD_op1, opD0_some, opD1_some, RD_call, callQD_clo, RD_guard, gdD_tt, gdD_ff, gdD_tf, gdD_ft, gdD_un, psh_nil, psh_cons, Apt_nil, Apt_nilT, Apt_true, Apt_false, Dis_def, runT_val, runT_rd, runT_wr, runT_new, runT_mv, ex, put_some, put_none, ev_t, ev_c, argF_zero, argF_succ, set_g, set_n, cells_v, cells_sl, cells_agg, cells_own, cells_ptr, cells_clo, cells_eptr, cells_mp, putc, exBslice, lfill, exField, exIdxV, exIdxP, exBox, exAlloc, exLoad, exStore, exFieldA, exIdxA, exLen, exPick, exUn, exBeq, exMM, exSeq, seqGo, exExt, binV, intOp, subc, AV.solid, S0, encI, encB, c_reach_walker_again_2, g8, hcc.1, hcs]
    refine CallR.looks (S := ⟨S.n + 4, S.g⟩) k1 (.cons (hv.fz closed_I) (.cons (.closed _ (closed_I j)) .nil)) (.v _) ?_
    cases hcon : (addA met L).contains j with
    | true =>
      rw [hcon, if_pos rfl] at hsn
      simp [AW_seq, AW_reg, AW_regD, AW_block, AW_cond, AW_skip, AW_exit, AW_ret, AW_scp, condR_true, condR_false, AThen_normal, AThen_ret, AThen_exit, ABlock_normal, ABlock_ret, ABlock_exit, AScope_normal, AScope_ret, AScope_exit, RetK_ret, RetK_normal, retAV_one, retAV_two, retAV_three, retAV_nil, RG_nil, RG_op, RG_guard, gdR_tt, gdR_ff, gdR_tf, gdR_ft, gdR_un, RG_call, callQ_clo, contK_ap, opR_some, RD_nil, RD_op0, RD_op1, opD0_some, opD1_some, RD_call, callQD_clo, RD_guard, gdD_tt, gdD_ff, gdD_tf, gdD_ft, gdD_un, psh_nil, psh_cons, Apt_nil, Apt_nilT, Apt_true, Apt_false, Dis_def, runT_val, runT_rd, runT_wr, runT_new, runT_mv, ex, put_some, put_none, ev_t, ev_c, argF_zero, argF_succ, set_g, set_n, cells_v, cells_sl, cells_agg, cells_own, cells_ptr, cells_clo, cells_eptr, cells_mp, putc, exBslice, lfill, exField, exIdxV, exIdxP, exBox, exAlloc, exLoad, exStore, exFieldA, exIdxA, exLen, exPick, exUn, exBeq, exMM, exSeq, seqGo, exExt, binV, intOp, subc, AV.solid, S0, encI, encB]
      refine hk _ (b8 :: cv.ids) ⟨cv, rfl, g8, by rw [hsn]; exact hv.frame (fun _ _ => rfl), by simp; omega, fun i h => ?_, hb', hb2, hd⟩ ⟨fun i h => .inl h, fun _ _ _ => rfl, by simp⟩
      have := hi i h
      exact ⟨by simp; omega, this.2⟩
    | false =>
      rw [hcon, if_neg (by simp)] at hsn
      simp [AW_seq, AW_reg, AW_regD, AW_block, AW_cond, AW_skip, AW_exit, AW_ret, AW_scp, condR_true, condR_false, AThen_normal, AThen_ret, AThen_exit, ABlock_normal, ABlock_ret, ABlock_exit, AScope_normal, AScope_ret, AScope_exit, RetK_ret, RetK_normal, retAV_one, retAV_two, retAV_three, retAV_nil, RG_nil, RG_op, RG_guard, gdR_tt, gdR_ff, gdR_tf, gdR_ft, gdR_un, RG_call, callQ_clo, contK_ap, opR_some, RD_nil, RD_op0, RD_op1, opD0_some, opD1_some, RD_call, callQD_clo, RD_guard, gdD_tt, gdD_ff, gdD_tf, gdD_ft, gdD_un, psh_nil, psh_cons, Apt_nil, Apt_nilT, Apt_true, Apt_false, Dis_def, runT_val, runT_rd, runT_wr, runT_new, runT_mv, ex, put_some, put_none, ev_t, ev_c, argF_zero, argF_succ, set_g, set_n, cells_v, cells_sl, cells_agg, cells_own, cells_ptr, cells_clo, cells_eptr, cells_mp, putc, exBslice, lfill, exField, exIdxV, exIdxP, exBox, exAlloc, exLoad, exStore, exFieldA, exIdxA, exLen, exPick, exUn, exBeq, exMM, exSeq, seqGo, exExt, binV, intOp, subc, AV.solid, S0, encI, encB, g8, hcc.1, hcs]
      have hap := fun (m nid : Nat) => Vec.app (n := m) (nid := nid) (by_ := 8) (x := .v (.int .i64 j)) hv (cells_I _) (by simp [AV.cells]) (appOk8 (by rw [List.length_map]; omega))
      rw [hap]
      have h8v : b8 ∉ cv.ids := fun h => (hi b8 h).2 rfl
      have hw : ∀ m, (St.without ⟨m, S.g⟩ cv).g b8 = some (.arr 1 [cv]) := fun m => by rw [without_g b8 h8v]; exact g8
      have hbn : ¬ b8 = S.n + 4 + 3 := by omega
      simp [AW_seq, AW_reg, AW_regD, AW_block, AW_cond, AW_skip, AW_exit, AW_ret, AW_scp, condR_true, condR_false, AThen_normal, AThen_ret, AThen_exit, ABlock_normal, ABlock_ret, ABlock_exit, AScope_normal, AScope_ret, AScope_exit, RetK_ret, RetK_normal, retAV_one, retAV_two, retAV_three, retAV_nil, RG_nil, RG_op, RG_guard, gdR_tt, gdR_ff, gdR_tf, gdR_ft, gdR_un, RG_call, callQ_clo, contK_ap, opR_some, RD_nil, RD_op0, RD_op1, opD0_some, opD1_some, RD_call, callQD_clo, RD_guard, gdD_tt, gdD_ff, gdD_tf, gdD_ft, gdD_un, psh_nil, psh_cons, Apt_nil, Apt_nilT, Apt_true, Apt_false, Dis_def, runT_val, runT_rd, runT_wr, runT_new, runT_mv, ex, put_some, put_none, ev_t, ev_c, argF_zero, argF_succ, set_g, set_n, cells_v, cells_sl, cells_agg, cells_own, cells_ptr, cells_clo, cells_eptr, cells_mp, putc, exBslice, lfill, exField, exIdxV, exIdxP, exBox, exAlloc, exLoad, exStore, exFieldA, exIdxA, exLen, exPick, exUn, exBeq, exMM, exSeq, seqGo, exExt, binV, intOp, subc, AV.solid, S0, encI, encB, hw, hbn, hcc.1, hcs]
      refine hk _ (b8 :: [S.n + 4 + 3]) ⟨.own (S.n + 4 + 3) 0 ((addA met L).length + 1), rfl, by simp [set_g], ?_, ?_, fun i h => ?_, hb', hb2, hd⟩ ⟨fun i h => ?_, fun i h1 h2 => ?_, ?_⟩
      · rw [hsn]
        exact .mk' (by simp [set_g, encI]; omega) (by simp)
      · rw [set_n, set_n, without_n]; show b8 < S.n + 4 + 5; omega
      · simp only [AV.ids, List.mem_singleton] at h
        subst h
        refine ⟨by rw [set_n, set_n, without_n]; show S.n + 4 + 3 < S.n + 4 + 5; omega, by omega⟩
      · simp only [List.mem_cons, List.not_mem_nil, or_false] at h
        rcases h with rfl | rfl
        · simp
        · right; omega
      · simp only [List.mem_cons, not_or] at h2
        rw [set_g, if_neg h2.1, set_g, if_neg (by omega), without_g i h2.2]
      · rw [set_n, set_n, without_n]; show S.n ≤ S.n + 4 + 5; omega
def AgI (tv cv : AV) (cur : List Int) (J : List Int → List Nat → St → Prop) (L : List Int) (A : List Nat) (S1 : St) (k : Nat) (f : AF) (S : St) : Prop :=
  f 3 = tv ∧ f 23 = cv ∧ f 24 = encI cur.length ∧ f 25 = encI k ∧ ∃ A', J (L ++ cur.take k) A' S ∧ Ext A A' S1 S
theorem ag_out {P : Program} {n : Nat} {tv cv : AV} {cur : List Int} {J : List Int → List Nat → St → Prop} {L : List Int} {A : List Nat} {f : AF} {S : St} {Q : Exit → AF → St → Prop} (hT : Tlr P n tv J) (hJ : J L A S) (e3 : f 3 = tv) (e23 : f 23 = cv) (e24 : f 24 = encI cur.length) (e25 : f 25 = encI 0)
    (hcv : LV S.g cv (cur.map encI)) (hci : ∀ i ∈ cv.ids, i < S.n ∧ i ∉ A) (hcur : ∀ x ∈ cur, 0 ≤ x ∧ x ≤ (n : Int)) (hlen : cur.length ≤ 1000000) (hk : ∀ f' S' A', J (L ++ cur) A' S' → Ext A A' S S' → Q .normal f' S') : AW P c_ag_out Q f S := by
  obtain ⟨ft, first, cap, htv, hcall⟩ := hT.call
  simp [AW_seq, AW_reg, AW_regD, AW_block, AW_cond, AW_skip, AW_exit, AW_ret, AW_scp, condR_true, condR_false, AThen_normal, AThen_ret, AThen_exit, ABlock_normal, ABlock_ret, ABlock_exit, AScope_normal, AScope_ret, AScope_exit, RetK_ret, RetK_normal, retAV_one, retAV_two, retAV_three, retAV_nil, RG_nil, RG_op, RG_guard, gdR_tt, gdR_ff, gdR_tf, gdR_ft, gdR_un, RG_call, callQ_clo, contK_ap, opR_some, RD_nil, RD_op0, RD_op1, opD0_some, opD1_some, RD_call, callQD_clo, RD_guard, gdD_tt, gdD_ff, gdD_tf, gdD_ft, gdD_un, psh_nil, psh_cons, Apt_nil, Apt_nilT, Apt_true, Apt_false, Dis_def, runT_val, runT_rd, runT_wr, runT_new, runT_mv, ex, put_some, put_none, ev_t, ev_c, argF_zero, argF_succ, set_g, set_n, cells_v, cells_sl, cells_agg, cells_own, cells_ptr, cells_clo, cells_eptr, cells_mp, putc, exBslice, lfill, exField, exIdxV, exIdxP, exBox, exAlloc, exLoad, exStore, exFieldA, exIdxA, exLen, exPick, exUn, exBeq, exMM, exSeq, seqGo, exExt, binV, intOp, subc, AV.solid, S0, encI, encB, c_ag_out]
  refine AW_for cur.length (AgI tv cv cur J L A S) ⟨e3, e23, e24, e25, A, by simpa using hJ, .refl _ _⟩ ?_
  rintro k f S2 hk' ⟨e3, e23, e24, e25, A2, hJ2, hE⟩
  by_cases hlt : k < cur.length
  · have hcv2 : LV S2.g cv (cur.map encI) := hcv.frame (fun i hi => hE.fr i (hci i hi).1 (hci i hi).2)
    obtain ⟨pp, hi1, hi2⟩ := hcv2.idx (i := k) (by simpa using hlt) (by simp [encI, AV.cells]) (by simp [encI, AV.cells])
    simp only [List.getElem_map, encI, exLoad, subc] at hi2
    simp only [exIdxA] at hi1
    have hb := hcur _ (List.getElem_mem hlt)
    have htk : cur.take (k + 1) = cur.take k ++ [cur[k]] := by rw [List.take_add_one, List.getElem?_eq_getElem hlt]; rfl
    simp [AW_seq, AW_reg, AW_regD, AW_block, AW_cond, AW_skip, AW_exit, AW_ret, AW_scp, condR_true, condR_false, AThen_normal, AThen_ret, AThen_exit, ABlock_normal, ABlock_ret, ABlock_exit, AScope_normal, AScope_ret, AScope_exit, RetK_ret, RetK_normal, retAV_one, retAV_two, retAV_three, retAV_nil, RG_nil, RG_op, RG_guard, gdR_tt, gdR_ff, gdR_tf, gdR_ft, gdR_un, RG_call, callQ_clo, contK_ap, opR_some, RD_nil, RD_op0, RD_op1, opD0_some, opD1_some, RD_call, callQD_clo, RD_guard, gdD_tt, gdD_ff, gdD_tf, gdD_ft, gdD_un, psh_nil, psh_cons, Apt_nil, Apt_nilT, Apt_true, Apt_false, Dis_def, runT_val, runT_rd, runT_wr, runT_new, runT_mv, ex, put_some, put_none, ev_t, ev_c, argF_zero, argF_succ, set_g, set_n, cells_v, cells_sl, cells_agg, cells_own, cells_ptr, cells_clo, cells_eptr, cells_mp, putc, exBslice, lfill, exField, exIdxV, exIdxP, exBox, exAlloc, exLoad, exStore, exFieldA, exIdxA, exLen, exPick, exUn, exBeq, exMM, exSeq, seqGo, exExt, binV, intOp, subc, AV.solid, S0, encI, encB, e3, e23, e24, e25, hlt, hi1, hi2, htv]
    have hc2 := hcall (L ++ cur.take k) A2
    simp only [encI] at hc2
    refine hc2 _ _ _ hb.1 hb.2 (hT.keep hJ2 (fun _ _ => rfl) (by show S2.n ≤ _; simp; omega)) fun S3 A3 hJ3 hE3 => ?_
    have hn3 := hE3.nn
    simp [AW_seq, AW_reg, AW_regD, AW_block, AW_cond, AW_skip, AW_exit, AW_ret, AW_scp, condR_true, condR_false, AThen_normal, AThen_ret, AThen_exit, ABlock_normal, ABlock_ret, ABlock_exit, AScope_normal, AScope_ret, AScope_exit, RetK_ret, RetK_normal, retAV_one, retAV_two, retAV_three, retAV_nil, RG_nil, RG_op, RG_guard, gdR_tt, gdR_ff, gdR_tf, gdR_ft, gdR_un, RG_call, callQ_clo, contK_ap, opR_some, RD_nil, RD_op0, RD_op1, opD0_some, opD1_some, RD_call, callQD_clo, RD_guard, gdD_tt, gdD_ff, gdD_tf, gdD_ft, gdD_un, psh_nil, psh_cons, Apt_nil, Apt_nilT, Apt_true, Apt_false, Dis_def, runT_val, runT_rd, runT_wr, runT_new, runT_mv, ex, put_some, put_none, ev_t, ev_c, argF_zero, argF_succ, set_g, set_n, cells_v, cells_sl, cells_agg, cells_own, cells_ptr, cells_clo, cells_eptr, cells_mp, putc, exBslice, lfill, exField, exIdxV, exIdxP, exBox, exAlloc, exLoad, exStore, exFieldA, exIdxA, exLen, exPick, exUn, exBeq, exMM, exSeq, seqGo, exExt, binV, intOp, subc, AV.solid, S0, encI, encB, e3, e23, e24, e25]
    rw [wrap_in _ (by omega)]
    refine ⟨hlt, ?_, ?_, ?_, ?_, A3, ?_, ?_⟩
    · simp [put_some, e3, htv]
    · simp [put_some, e23]
    · simp [put_some, e24]
    · simp [put_some, encI]
    · rw [htk, ← List.append_assoc]
      exact hT.keep hJ3 (fun _ _ => rfl) (by simp)
    · refine hE.trans ⟨fun i hi => ?_, fun i hi hi2 => ?_, ?_⟩
      · rcases hE3.nw i hi with h1 | h1
        · exact .inl h1
        · right
          refine Nat.le_trans ?_ h1
          simp; omega
      · exact hE3.fr i (by refine Nat.lt_of_lt_of_le hi ?_; simp; omega) hi2
      · refine Nat.le_trans ?_ (Nat.le_trans hn3 ?_)
        · simp; omega
        · simp
  · have hke : k = cur.length := by omega
    subst hke
    rw [List.take_length] at hJ2
    simp [AW_seq, AW_reg, AW_regD, AW_block, AW_cond, AW_skip, AW_exit, AW_ret, AW_scp, condR_true, condR_false, AThen_normal, AThen_ret, AThen_exit, ABlock_normal, ABlock_ret, ABlock_exit, AScope_normal, AScope_ret, AScope_exit, RetK_ret, RetK_normal, retAV_one, retAV_two, retAV_three, retAV_nil, RG_nil, RG_op, RG_guard, gdR_tt, gdR_ff, gdR_tf, gdR_ft, gdR_un, RG_call, callQ_clo, contK_ap, opR_some, RD_nil, RD_op0, RD_op1, opD0_some, opD1_some, RD_call, callQD_clo, RD_guard, gdD_tt, gdD_ff, gdD_tf, gdD_ft, gdD_un, psh_nil, psh_cons, Apt_nil, Apt_nilT, Apt_true, Apt_false, Dis_def, runT_val, runT_rd, runT_wr, runT_new, runT_mv, ex, put_some, put_none, ev_t, ev_c, argF_zero, argF_succ, set_g, set_n, cells_v, cells_sl, cells_agg, cells_own, cells_ptr, cells_clo, cells_eptr, cells_mp, putc, exBslice, lfill, exField, exIdxV, exIdxP, exBox, exAlloc, exLoad, exStore, exFieldA, exIdxA, exLen, exPick, exUn, exBeq, exMM, exSeq, seqGo, exExt, binV, intOp, subc, AV.solid, S0, encI, encB, e3, e23, e24, e25, hlt]
    refine hk _ _ A2 (hT.keep hJ2 (fun _ _ => rfl) (by simp)) ⟨hE.nw, hE.fr, by have := hE.nn; simp; omega⟩
theorem addA_pre : ∀ (met xs : List Int), ∃ R, addA met xs = met ++ R
  | met, [] => ⟨[], by simp [addA]⟩
  | met, x :: xs => by
    simp only [addA]
    obtain ⟨R, hR⟩ := addA_pre (if met.contains x = true then met else met ++ [x]) xs
    rw [hR]
    split
    · exact ⟨R, rfl⟩
    · exact ⟨x :: R, by simp⟩
structure AgS (l : List Int) (p : Pat) (tv : AV) (b4 b5 b8 : Nat) (Sz : St) (i : Nat) (f : AF) (S : St) : Prop where
  e3 : f 3 = tv
  e4 : f 4 = .ptr b4 0 0
  e5 : f 5 = .ptr b5 0 0
  e8 : f 8 = .ptr b8 0 0
  e11 : f 11 = encI i
  g4 : S.g b4 = some (.arr 1 [encW l])
  g5 : S.g b5 = some (.arr 4 [encPat p])
  n4 : Sz.n ≤ b4 ∧ b4 < S.n
  n5 : Sz.n ≤ b5 ∧ b5 < S.n
  n8 : Sz.n ≤ b8 ∧ b8 < S.n ∧ b8 ≠ b4 ∧ b8 ≠ b5
structure AgV (b4 b5 b8 : Nat) (Sz : St) (J : List Int → List Nat → St → Prop) (L : List Int) (A : List Nat) (met : List Int) (i : Nat) (cv : AV) (A' : List Nat) (S : St) : Prop where
  g8 : S.g b8 = some (.arr 1 [cv])
  vec : Vec S.g cv 1 (met.map encI)
  ids : ∀ j ∈ cv.ids, Sz.n ≤ j ∧ j < S.n ∧ j ≠ b4 ∧ j ≠ b5 ∧ j ≠ b8 ∧ j ∉ A'
  J : J (L ++ met.take i) A' S
  E : Ext A A' Sz S
  d4 : b4 ∉ A'
  d5 : b5 ∉ A'
  d8 : b8 ∉ A'
def AgL (l : List Int) (p q : Pat) (tv : AV) (b4 b5 b8 : Nat) (Sz : St) (J : List Int → List Nat → St → Prop) (L : List Int) (A : List Nat) (fin : List Int) (m : Nat) (f : AF) (S : St) : Prop :=
  ∃ i met cv A', AgS l p tv b4 b5 b8 Sz i f S ∧ AgV b4 b5 b8 Sz J L A met i cv A' S ∧ met.Nodup ∧ (∀ x ∈ met, 0 ≤ x ∧ x ≤ l.length) ∧ i ≤ met.length ∧ m = l.length + 2 - i ∧ cloL (fun a => visits l q a) (l.length + 2 - i) met i = fin
theorem ag_loop {P : Program} (hm : P.follows .mixedOrders = true) {ff f2 fc : FuncId} (hI2 : Is P f2 (c_reach_walker_again_2 fc) [] 2) (hc : ∀ (l : List Int) x, Len l → PureC P fc [encIs l, encI x] (encB (l.contains x))) {l : List Int} (hl : l.length ≤ 10000) {k : Int} {ps : List Rg} {pg : List Int} {q : Pat} (hq : FromOk P ff l q)
    {tv : AV} {b4 b5 b8 : Nat} {Sz : St} {J : List Int → List Nat → St → Prop} {L : List Int} {A : List Nat} {fin : List Int} (hT : Tlr P l.length tv J) (hA : ∀ j ∈ A, j < Sz.n) {m : Nat} {f : AF} {S : St} {Q : Exit → AF → St → Prop} (h : AgL l (.mk k ps pg [q]) q tv b4 b5 b8 Sz J L A fin m f S)
    (hk : ∀ f' S' A', J (L ++ fin) A' S' → Ext A A' Sz S' → Q .normal f' S') : AW P (c_ag_loop f2 ff) Q f S := by
  obtain ⟨ft, first, cap, htv, hcall⟩ := hT.call
  simp [AW_seq, AW_reg, AW_regD, AW_block, AW_cond, AW_skip, AW_exit, AW_ret, AW_scp, condR_true, condR_false, AThen_normal, AThen_ret, AThen_exit, ABlock_normal, ABlock_ret, ABlock_exit, AScope_normal, AScope_ret, AScope_exit, RetK_ret, RetK_normal, retAV_one, retAV_two, retAV_three, retAV_nil, RG_nil, RG_op, RG_guard, gdR_tt, gdR_ff, gdR_tf, gdR_ft, gdR_un, RG_call, callQ_clo, contK_ap, opR_some, RD_nil, RD_op0, RD_op1, opD0_some, opD1_some, RD_call, callQD_clo, RD_guard, gdD_tt, gdD_ff, gdD_tf, gdD_ft, gdD_un, psh_nil, psh_cons, Apt_nil, Apt_nilT, Apt_true, Apt_false, Dis_def, runT_val, runT_rd, runT_wr, runT_new, runT_mv, ex, put_some, put_none, ev_t, ev_c, argF_zero, argF_succ, set_g, set_n, cells_v, cells_sl, cells_agg, cells_own, cells_ptr, cells_clo, cells_eptr, cells_mp, putc, exBslice, lfill, exField, exIdxV, exIdxP, exBox, exAlloc, exLoad, exStore, exFieldA, exIdxA, exLen, exPick, exUn, exBeq, exMM, exSeq, seqGo, exExt, binV, intOp, subc, AV.solid, S0, encI, encB, c_ag_loop]
  refine AW_loop (AgL l (.mk k ps pg [q]) q tv b4 b5 b8 Sz J L A fin) m h ?_
  rintro m f S ⟨i, met, cv, A', s, v, hd, hb, him, rfl, hfin⟩
  have e3 := s.e3
  have e4 := s.e4
  have e5 := s.e5
  have e8 := s.e8
  have e11 := s.e11
  have g8 := v.g8
  have hml : met.length ≤ l.length + 1 := nodup_len _ hd (fun x hx => by have := hb x hx; omega)
  have hcc := v.vec.cel
  have hcs := hcc.2
  simp only [AV.solid] at hcs
  have hlc := (LV.len (.inr v.vec) : exLen cv = _)
  simp only [List.length_map, exLen] at hlc
  by_cases hlt : i < met.length
  · obtain ⟨pp, hi1, hi2⟩ := (LV.idx (.inr v.vec) (i := i) (by simpa using hlt) (by simp [encI, AV.cells]) (by simp [encI, AV.cells]) : ∃ p, (∀ n nid, (exIdxA 1 cv (.v (.int .i64 (i : Int)))).run ⟨n, S.g⟩ nid = some (p, ⟨n, S.g⟩)) ∧ _)
    simp only [List.getElem_map, encI, exLoad, subc] at hi2
    simp only [exIdxA] at hi1
    have hbi := hb _ (List.getElem_mem hlt)
    simp [AW_seq, AW_reg, AW_regD, AW_block, AW_cond, AW_skip, AW_exit, AW_ret, AW_scp, condR_true, condR_false, AThen_normal, AThen_ret, AThen_exit, ABlock_normal, ABlock_ret, ABlock_exit, AScope_normal, AScope_ret, AScope_exit, RetK_ret, RetK_normal, retAV_one, retAV_two, retAV_three, retAV_nil, RG_nil, RG_op, RG_guard, gdR_tt, gdR_ff, gdR_tf, gdR_ft, gdR_un, RG_call, callQ_clo, contK_ap, opR_some, RD_nil, RD_op0, RD_op1, opD0_some, opD1_some, RD_call, callQD_clo, RD_guard, gdD_tt, gdD_ff, gdD_tf, gdD_ft, gdD_un, psh_nil, psh_cons, Apt_nil, Apt_nilT, Apt_true, Apt_false, Dis_def, runT_val, runT_rd, runT_wr, runT_new, runT_mv, ex, put_some, put_none, ev_t, ev_c, argF_zero, argF_succ, set_g, set_n, cells_v, cells_sl, cells_agg, cells_own, cells_ptr, cells_clo, cells_eptr, cells_mp, putc, exBslice, lfill, exField, exIdxV, exIdxP, exBox, exAlloc, exLoad, exStore, exFieldA, exIdxA, exLen, exPick, exUn, exBeq, exMM, exSeq, seqGo, exExt, binV, intOp, subc, AV.solid, S0, encI, encB, e3, e4, e5, e8, e11, g8, hcc.1, hcs, hlc, hlt, hi1, hi2, htv]
    have hc2 := hcall (L ++ met.take i) A'
    simp only [encI] at hc2
    refine hc2 _ _ _ hbi.1 hbi.2 (hT.keep v.J (fun _ _ => rfl) (by show S.n ≤ _; simp; omega)) fun S3 A3 hJ3 hE3 => ?_
    have hn3 := hE3.nn
    have n4 := s.n4
    have n5 := s.n5
    have n8 := s.n8
    have hnS : S.n ≤ S3.n := Nat.le_trans (by show S.n ≤ _; simp; omega) hn3
    have hlow : ∀ j, j < S.n → j ∉ A' → S3.g j = S.g j := fun j hj hj2 => hE3.fr j (by refine Nat.lt_of_lt_of_le hj ?_; simp; omega) hj2
    have g43 := (hlow b4 n4.2 v.d4).trans s.g4
    have g53 := (hlow b5 n5.2 v.d5).trans s.g5
    have g83 := (hlow b8 n8.2.1 v.d8).trans v.g8
    have hA3 : ∀ j, j < S.n → j ∉ A' → j ∉ A3 := fun j hj hj2 h3 => by
      rcases hE3.nw j h3 with h4 | h4
      · exact hj2 h4
      · have : S.n ≤ j := Nat.le_trans (by show S.n ≤ _; simp; omega) h4
        omega
    have hv3 : Vec S3.g cv 1 (met.map encI) := v.vec.frame (fun j hj => by have := v.ids j hj; exact hlow j this.2.1 this.2.2.2.2.2)
    obtain ⟨pp3, hj1, hj2⟩ := (LV.idx (.inr hv3) (i := i) (by simpa using hlt) (by simp [encI, AV.cells]) (by simp [encI, AV.cells]) : ∃ p, (∀ n nid, (exIdxA 1 cv (.v (.int .i64 (i : Int)))).run ⟨n, S3.g⟩ nid = some (p, ⟨n, S3.g⟩)) ∧ _)
    simp only [List.getElem_map, encI, exLoad, subc] at hj2
    simp only [exIdxA] at hj1
    obtain ⟨qk, qs, qg, qks⟩ := q
    have hq2 := hq
    unfold FromOk at hq2
    simp only [encPat_eq, encW, encIs, encI, encRs, List.map_cons, List.map_nil] at hq2 g43 g53
    simp [AW_seq, AW_reg, AW_regD, AW_block, AW_cond, AW_skip, AW_exit, AW_ret, AW_scp, condR_true, condR_false, AThen_normal, AThen_ret, AThen_exit, ABlock_normal, ABlock_ret, ABlock_exit, AScope_normal, AScope_ret, AScope_exit, RetK_ret, RetK_normal, retAV_one, retAV_two, retAV_three, retAV_nil, RG_nil, RG_op, RG_guard, gdR_tt, gdR_ff, gdR_tf, gdR_ft, gdR_un, RG_call, callQ_clo, contK_ap, opR_some, RD_nil, RD_op0, RD_op1, opD0_some, opD1_some, RD_call, callQD_clo, RD_guard, gdD_tt, gdD_ff, gdD_tf, gdD_ft, gdD_un, psh_nil, psh_cons, Apt_nil, Apt_nilT, Apt_true, Apt_false, Dis_def, runT_val, runT_rd, runT_wr, runT_new, runT_mv, ex, put_some, put_none, ev_t, ev_c, argF_zero, argF_succ, set_g, set_n, cells_v, cells_sl, cells_agg, cells_own, cells_ptr, cells_clo, cells_eptr, cells_mp, putc, exBslice, lfill, exField, exIdxV, exIdxP, exBox, exAlloc, exLoad, exStore, exFieldA, exIdxA, exLen, exPick, exUn, exBeq, exMM, exSeq, seqGo, exExt, binV, intOp, subc, AV.solid, S0, encI, encB, e3, e4, e5, e8, e11, htv, g83, g43, g53, hcc.1, hcs, hj1, hj2, AW_regS, RSp_nil, RSp_op, opS_some, RSp_call, callS_clo, Kept_nil]
    have hJ2 : J2 l.length met b8 [] (b8 :: cv.ids) (⟨S3.n + 11, S3.g⟩ : St) :=
      ⟨cv, rfl, g83, by simpa [addA] using hv3, by show b8 < S3.n + 11; omega, fun j hj => by have := v.ids j hj; exact ⟨by show j < S3.n + 11; omega, this.2.2.2.2.1⟩, by simp, hb, hd⟩
    refine hq2 _ _ (J2 l.length met b8) [] (b8 :: cv.ids) _ _ hbi.1 hbi.2 (again_2_tlr hm hI2 hc hl met b8) hJ2 fun S4 A4 hJ4 hE4 => ?_
    obtain ⟨cv4, rfl, g84, hv4, l84, hi4, hb4, _, _⟩ := hJ4
    rw [List.nil_append] at hv4 hb4
    have hn4 : S3.n + 11 ≤ S4.n := hE4.nn
    have hlow4 : ∀ j, j < S3.n + 11 → j ∉ b8 :: cv.ids → S4.g j = S3.g j := fun j hj hj2 => hE4.fr j hj hj2
    rw [wrap_in _ (by omega)]
    have hA3n : ∀ j ∈ A3, j < S3.n := fun j hj => hT.lt hJ3 j hj
    have hA3d : ∀ j ∈ A3, j ∉ b8 :: cv.ids := fun j hj h5 => by
      rcases List.mem_cons.mp h5 with rfl | h5
      · exact hA3 _ n8.2.1 v.d8 hj
      · have := v.ids j h5; exact hA3 j this.2.1 this.2.2.2.2.2 hj
    have htk : met.take (i + 1) = met.take i ++ [met[i]] := by rw [List.take_add_one, List.getElem?_eq_getElem hlt]; rfl
    have hpre : (addA met (visits l (.mk qk qs qg qks) met[i])).take (i + 1) = met.take (i + 1) := by
      obtain ⟨R, hR⟩ := addA_pre met (visits l (.mk qk qs qg qks) met[i])
      rw [hR, List.take_append_of_le_length (by omega)]
    have hmn := addA_len hd hb hb4
    refine ⟨l.length + 2 - (i + 1), by omega, i + 1, addA met (visits l (.mk qk qs qg qks) met[i]), cv4, A3, ⟨?_, ?_, ?_, ?_, ?_, ?_, ?_, ⟨n4.1, ?_⟩, ⟨n5.1, ?_⟩, ⟨n8.1, ?_, n8.2.2⟩⟩, ⟨g84, hv4.frame (fun _ _ => rfl), fun j hj => ?_, ?_, ?_, hA3 _ n4.2 v.d4, hA3 _ n5.2 v.d5, hA3 _ n8.2.1 v.d8⟩, addA_nodup hd, fun x hx => ?_, ?_, rfl, ?_⟩
    · simp [put_some, e3, htv]
    · simp [put_some, e4]
    · simp [put_some, e5]
    · simp [put_some, e8]
    · simp [put_some, encI]
    · refine (hlow4 b4 (by omega) (fun h5 => ?_)).trans g43
      rcases List.mem_cons.mp h5 with h5 | h5
      · exact n8.2.2.1 h5.symm
      · exact (v.ids b4 h5).2.2.1 rfl
    · refine (hlow4 b5 (by omega) (fun h5 => ?_)).trans ?_
      · rcases List.mem_cons.mp h5 with h5 | h5
        · exact n8.2.2.2 h5.symm
        · exact (v.ids b5 h5).2.2.2.1 rfl
      · rw [g53]; simp [encPat_eq, encI, encRs, encIs]
    · show b4 < S4.n + 3; omega
    · show b5 < S4.n + 3; omega
    · show b8 < S4.n + 3; omega
    · have h6 := hi4 j hj
      have h7 := hE4.nw j (by simp [hj])
      rcases h7 with h7 | h7
      · rcases List.mem_cons.mp h7 with rfl | h7
        · exact absurd rfl h6.2
        · have := v.ids j h7
          exact ⟨this.1, by show j < S4.n + 3; omega, this.2.2.1, this.2.2.2.1, this.2.2.2.2.1, fun h9 => hA3d j h9 (by simp [h7])⟩
      · have h8 : S3.n + 11 ≤ j := h7
        exact ⟨by omega, by show j < S4.n + 3; omega, by omega, by omega, by omega, fun h9 => by have := hA3n j h9; omega⟩
    · rw [hpre, htk, ← List.append_assoc]
      exact hT.keep hJ3 (fun j hj => hlow4 j (by have := hA3n j hj; omega) (hA3d j hj)) (by show S3.n ≤ S4.n + 3; omega)
    · have hzn := v.E.nn
      refine ⟨fun j hj => ?_, fun j hj hj2 => ?_, by show Sz.n ≤ S4.n + 3; omega⟩
      · rcases hE3.nw j hj with h6 | h6
        · exact v.E.nw j h6
        · exact .inr (Nat.le_trans (Nat.le_trans hzn (by show S.n ≤ _; simp; omega)) h6)
      · have hjA : j ∉ A' := fun h6 => by
          rcases v.E.nw j h6 with h7 | h7
          · exact hj2 h7
          · omega
        refine (hlow4 j (by omega) (fun h6 => ?_)).trans ((hlow j (by omega) hjA).trans (v.E.fr j hj hj2))
        rcases List.mem_cons.mp h6 with rfl | h6
        · omega
        · have := v.ids j h6; omega
    · rcases mem_addA.mp hx with hx | hx
      · exact hb x hx
      · exact hb4 x hx
    · obtain ⟨R, hR⟩ := addA_pre met (visits l (.mk qk qs qg qks) met[i])
      rw [hR, List.length_append]; omega
    · have h6 : l.length + 2 - i = (l.length + 2 - (i + 1)) + 1 := by omega
      rw [h6, cloL, dif_pos hlt] at hfin
      exact hfin
  · have hie : i = met.length := by omega
    have hf : fin = met := by
      rw [← hfin]
      have : l.length + 2 - i = (l.length + 1 - i) + 1 := by omega
      rw [this, cloL, dif_neg hlt]
    have hJ := v.J
    rw [hie, List.take_length, ← hf] at hJ
    simp [AW_seq, AW_reg, AW_regD, AW_block, AW_cond, AW_skip, AW_exit, AW_ret, AW_scp, condR_true, condR_false, AThen_normal, AThen_ret, AThen_exit, ABlock_normal, ABlock_ret, ABlock_exit, AScope_normal, AScope_ret, AScope_exit, RetK_ret, RetK_normal, retAV_one, retAV_two, retAV_three, retAV_nil, RG_nil, RG_op, RG_guard, gdR_tt, gdR_ff, gdR_tf, gdR_ft, gdR_un, RG_call, callQ_clo, contK_ap, opR_some, RD_nil, RD_op0, RD_op1, opD0_some, opD1_some, RD_call, callQD_clo, RD_guard, gdD_tt, gdD_ff, gdD_tf, gdD_ft, gdD_un, psh_nil, psh_cons, Apt_nil, Apt_nilT, Apt_true, Apt_false, Dis_def, runT_val, runT_rd, runT_wr, runT_new, runT_mv, ex, put_some, put_none, ev_t, ev_c, argF_zero, argF_succ, set_g, set_n, cells_v, cells_sl, cells_agg, cells_own, cells_ptr, cells_clo, cells_eptr, cells_mp, putc, exBslice, lfill, exField, exIdxV, exIdxP, exBox, exAlloc, exLoad, exStore, exFieldA, exIdxA, exLen, exPick, exUn, exBeq, exMM, exSeq, seqGo, exExt, binV, intOp, subc, AV.solid, S0, encI, encB, e3, e4, e5, e8, e11, g8, hcc.1, hcs, hlc, hlt]
    refine hk _ _ A' (hT.keep hJ (fun _ _ => rfl) (by simp)) ⟨v.E.nw, v.E.fr, by have := v.E.nn; simp; omega⟩
structure AgT (l : List Int) (p : Pat) (at_ : Int) (tv : AV) (b4 b5 b6 : Nat) (Sz : St) (f : AF) (S : St) : Prop where
  e3 : f 3 = tv
  e4 : f 4 = .ptr b4 0 0
  e5 : f 5 = .ptr b5 0 0
  e6 : f 6 = .ptr b6 0 0
  g4 : S.g b4 = some (.arr 1 [encW l])
  g5 : S.g b5 = some (.arr 4 [encPat p])
  g6 : S.g b6 = some (.arr 1 [encI at_])
  n4 : Sz.n ≤ b4 ∧ b4 < S.n
  n5 : Sz.n ≤ b5 ∧ b5 < S.n
  n6 : Sz.n ≤ b6 ∧ b6 < S.n
theorem ag_tail {P : Program} (hm : P.follows .mixedOrders = true) {ff f1 f2 fo fo1 fc : FuncId} (hI1 : IsS P f1 (c_reach_walker_again_1 ff) [] 4) (hI2 : Is P f2 (c_reach_walker_again_2 fc) [] 2) (hIo : Is P fo (c_reach_once fo1) [2] 1) (hIo1 : Is P fo1 c_reach_once_1 [] 3) (hc : ∀ (l : List Int) x, Len l → PureC P fc [encIs l, encI x] (encB (l.contains x)))
    {l : List Int} (hl : l.length ≤ 10000) {k : Int} {ps : List Rg} {pg : List Int} {q : Pat} (hq : FromOk P ff l q) {at_ : Int} (h0 : 0 ≤ at_) (h1 : at_ ≤ l.length) {tv : AV} {b4 b5 b6 : Nat} {Sz : St} {J : List Int → List Nat → St → Prop} {L : List Int} {A A' : List Nat} (hT : Tlr P l.length tv J) (hA : ∀ j ∈ A, j < Sz.n)
    {f : AF} {S : St} {Q : Exit → AF → St → Prop} (h : AgT l (.mk k ps pg [q]) at_ tv b4 b5 b6 Sz f S) (hJ : J L A' S) (hE : Ext A A' Sz S) (d4 : b4 ∉ A') (d5 : b5 ∉ A')
    (hk : ∀ e f' S' A2, (e = .normal ∨ e = .ret) → J (L ++ (if k = 7 then ddp (visits l q at_) else cloL (fun a => visits l q a) (l.length + 2) (ddp (visits l q at_)) 0)) A2 S' → Ext A A2 Sz S' → Q e f' S') : AW P (c_ag_tail f1 fo f2 ff) Q f S := by
  have e3 := h.e3
  have e4 := h.e4
  have e5 := h.e5
  have e6 := h.e6
  have n4 := h.n4
  have n5 := h.n5
  have n6 := h.n6
  have hlt := hT.lt hJ
  have hbd := visits_bd l q at_ h0 h1
  have hdl := ddp_len (n := l.length) (L := visits l q at_) (fun x hx => by have := hbd x hx; omega)
  have hzn := hE.nn
  simp [AW_seq, AW_reg, AW_regD, AW_block, AW_cond, AW_skip, AW_exit, AW_ret, AW_scp, condR_true, condR_false, AThen_normal, AThen_ret, AThen_exit, ABlock_normal, ABlock_ret, ABlock_exit, AScope_normal, AScope_ret, AScope_exit, RetK_ret, RetK_normal, retAV_one, retAV_two, retAV_three, retAV_nil, RG_nil, RG_op, RG_guard, gdR_tt, gdR_ff, gdR_tf, gdR_ft, gdR_un, RG_call, callQ_clo, contK_ap, opR_some, RD_nil, RD_op0, RD_op1, opD0_some, opD1_some, RD_call, callQD_clo, RD_guard, gdD_tt, gdD_ff, gdD_tf, gdD_ft, gdD_un, psh_nil, psh_cons, Apt_nil, Apt_nilT, Apt_true, Apt_false, Dis_def, runT_val, runT_rd, runT_wr, runT_new, runT_mv, ex, put_some, put_none, ev_t, ev_c, argF_zero, argF_succ, set_g, set_n, cells_v, cells_sl, cells_agg, cells_own, cells_ptr, cells_clo, cells_eptr, cells_mp, putc, exBslice, lfill, exField, exIdxV, exIdxP, exBox, exAlloc, exLoad, exStore, exFieldA, exIdxA, exLen, exPick, exUn, exBeq, exMM, exSeq, seqGo, exExt, binV, intOp, subc, AV.solid, S0, encI, encB, c_ag_tail, e4, e5, e6]
  have hd : Deed P l.length (.clo f1 [] [.ptr b4 0 0, .ptr b5 0 0, .ptr b6 0 0]) (⟨S.n + 4, S.g⟩ : St) (visits l q at_) :=
    again_1_deed hm hI1 hq h0 h1 (by show b4 < S.n + 4; omega) (by show b5 < S.n + 4; omega) (by show b6 < S.n + 4; omega) h.g4 h.g5 h.g6
  refine once_callR hm hIo hIo1 (n := l.length) (by omega) hd (fun S2 v hv hvi hfr hn2 => ?_)
  have hn2' : S.n + 4 ≤ S2.n := hn2
  have hvc := hv.cel
  have hvs := hvc.2
  simp only [AV.solid] at hvs
  have g42 := (hfr b4 (by show b4 < S.n + 4; omega)).trans h.g4
  have g52 := (hfr b5 (by show b5 < S.n + 4; omega)).trans h.g5
  have g52' := g52
  simp only [encPat_eq] at g52
  have hb5 : ¬ b5 = S.n + 2 := by omega
  have hb4 : ¬ b4 = S.n + 2 := by omega
  have hS : ∀ x y i, i ≠ S.n + 2 → ((({ n := S2.n, g := S2.g } : St).set (S.n + 2) x).set (S.n + 2) y).g i = S2.g i := fun x y i hi => by simp [set_g, hi]
  have hJ2 : ∀ S3 : St, S2.n ≤ S3.n → (∀ i, i < S.n → S3.g i = S2.g i) → J L A' S3 := fun S3 h5 h6 => hT.keep hJ (fun i hi => by rw [h6 i (hlt i hi)]; exact hfr i (by show i < S.n + 4; have := hlt i hi; omega)) (by omega)
  have hlv := (LV.len (.inr hv) : exLen v = _)
  simp only [List.length_map, exLen] at hlv
  have hdb : ∀ x ∈ ddp (visits l q at_), 0 ≤ x ∧ x ≤ (l.length : Int) := fun x hx => by have := hbd x (mem_ddp.mp hx); omega
  have hvn : ∀ j ∈ v.ids, S.n + 4 ≤ j ∧ j < S2.n := fun j hj => by have := hvi j hj; exact ⟨this.1, this.2⟩
  by_cases h7 : k = 7
  · subst h7
    rw [if_pos rfl] at hk
    simp [AW_seq, AW_reg, AW_regD, AW_block, AW_cond, AW_skip, AW_exit, AW_ret, AW_scp, condR_true, condR_false, AThen_normal, AThen_ret, AThen_exit, ABlock_normal, ABlock_ret, ABlock_exit, AScope_normal, AScope_ret, AScope_exit, RetK_ret, RetK_normal, retAV_one, retAV_two, retAV_three, retAV_nil, RG_nil, RG_op, RG_guard, gdR_tt, gdR_ff, gdR_tf, gdR_ft, gdR_un, RG_call, callQ_clo, contK_ap, opR_some, RD_nil, RD_op0, RD_op1, opD0_some, opD1_some, RD_call, callQD_clo, RD_guard, gdD_tt, gdD_ff, gdD_tf, gdD_ft, gdD_un, psh_nil, psh_cons, Apt_nil, Apt_nilT, Apt_true, Apt_false, Dis_def, runT_val, runT_rd, runT_wr, runT_new, runT_mv, ex, put_some, put_none, ev_t, ev_c, argF_zero, argF_succ, set_g, set_n, cells_v, cells_sl, cells_agg, cells_own, cells_ptr, cells_clo, cells_eptr, cells_mp, putc, exBslice, lfill, exField, exIdxV, exIdxP, exBox, exAlloc, exLoad, exStore, exFieldA, exIdxA, exLen, exPick, exUn, exBeq, exMM, exSeq, seqGo, exExt, binV, intOp, subc, AV.solid, S0, encI, encB, e5, g52, hb5, hvc.1, hvs, encI, hlv]
    refine ag_out (n := l.length) (cur := ddp (visits l q at_)) (cv := v) hT (A := A') (L := L) (hJ2 _ (by simp; omega) (fun i hi => by simp only [set_g]; rw [if_neg (by omega), if_neg (by omega)])) ?_ ?_ ?_ ?_ (.inr (hv.frame (fun i hi => by have := hvn i hi; simp only [set_g]; rw [if_neg (by omega), if_neg (by omega)]))) (fun i hi => ?_) hdb (by omega) (fun f3 S3 A3 hJ3 hE3 => ?_)
    · simp [put_some, e3]
    · simp [put_some]
    · simp [put_some, encI]
    · simp [put_some, encI]
    · have := hvn i hi
      exact ⟨by simp; omega, fun h5 => by have := hlt i h5; omega⟩
    · simp [AW_seq, AW_reg, AW_regD, AW_block, AW_cond, AW_skip, AW_exit, AW_ret, AW_scp, condR_true, condR_false, AThen_normal, AThen_ret, AThen_exit, ABlock_normal, ABlock_ret, ABlock_exit, AScope_normal, AScope_ret, AScope_exit, RetK_ret, RetK_normal, retAV_one, retAV_two, retAV_three, retAV_nil, RG_nil, RG_op, RG_guard, gdR_tt, gdR_ff, gdR_tf, gdR_ft, gdR_un, RG_call, callQ_clo, contK_ap, opR_some, RD_nil, RD_op0, RD_op1, opD0_some, opD1_some, RD_call, callQD_clo, RD_guard, gdD_tt, gdD_ff, gdD_tf, gdD_ft, gdD_un, psh_nil, psh_cons, Apt_nil, Apt_nilT, Apt_true, Apt_false, Dis_def, runT_val, runT_rd, runT_wr, runT_new, runT_mv, ex, put_some, put_none, ev_t, ev_c, argF_zero, argF_succ, set_g, set_n, cells_v, cells_sl, cells_agg, cells_own, cells_ptr, cells_clo, cells_eptr, cells_mp, putc, exBslice, lfill, exField, exIdxV, exIdxP, exBox, exAlloc, exLoad, exStore, exFieldA, exIdxA, exLen, exPick, exUn, exBeq, exMM, exSeq, seqGo, exExt, binV, intOp, subc, AV.solid, S0, encI, encB]
      have hn3 : S2.n + 3 + 3 ≤ S3.n := hE3.nn
      refine hk _ _ _ A3 (.inr rfl) hJ3 ⟨fun i hi => ?_, fun i hi hi2 => ?_, by omega⟩
      · rcases hE3.nw i hi with h5 | h5
        · exact hE.nw i h5
        · exact .inr (by have h6 : S2.n + 3 + 3 ≤ i := h5; omega)
      · have hiA : i ∉ A' := fun h6 => by
          rcases hE.nw i h6 with h8 | h8
          · exact hi2 h8
          · omega
        refine (hE3.fr i (by show i < S2.n + 3 + 3; omega) hiA).trans ?_
        simp only [set_g]
        rw [if_neg (by omega), if_neg (by omega), hfr i (by show i < S.n + 4; omega)]
        exact hE.fr i hi hi2
  · have h7' : (k == 7) = false := by simpa using h7
    rw [if_neg h7] at hk
    simp [AW_seq, AW_reg, AW_regD, AW_block, AW_cond, AW_skip, AW_exit, AW_ret, AW_scp, condR_true, condR_false, AThen_normal, AThen_ret, AThen_exit, ABlock_normal, ABlock_ret, ABlock_exit, AScope_normal, AScope_ret, AScope_exit, RetK_ret, RetK_normal, retAV_one, retAV_two, retAV_three, retAV_nil, RG_nil, RG_op, RG_guard, gdR_tt, gdR_ff, gdR_tf, gdR_ft, gdR_un, RG_call, callQ_clo, contK_ap, opR_some, RD_nil, RD_op0, RD_op1, opD0_some, opD1_some, RD_call, callQD_clo, RD_guard, gdD_tt, gdD_ff, gdD_tf, gdD_ft, gdD_un, psh_nil, psh_cons, Apt_nil, Apt_nilT, Apt_true, Apt_false, Dis_def, runT_val, runT_rd, runT_wr, runT_new, runT_mv, ex, put_some, put_none, ev_t, ev_c, argF_zero, argF_succ, set_g, set_n, cells_v, cells_sl, cells_agg, cells_own, cells_ptr, cells_clo, cells_eptr, cells_mp, putc, exBslice, lfill, exField, exIdxV, exIdxP, exBox, exAlloc, exLoad, exStore, exFieldA, exIdxA, exLen, exPick, exUn, exBeq, exMM, exSeq, seqGo, exExt, binV, intOp, subc, AV.solid, S0, encI, encB, e5, g52, hb5, hvc.1, hvs, encI, h7, h7']
    refine ag_loop hm hI2 hc hl (k := k) (ps := ps) (pg := pg) hq (tv := tv) (b4 := b4) (b5 := b5) (b8 := S.n + 2) (Sz := Sz) hT hA (m := l.length + 2) ⟨0, ddp (visits l q at_), v, A', ⟨?_, ?_, ?_, ?_, ?_, ?_, ?_, ⟨n4.1, ?_⟩, ⟨n5.1, ?_⟩, ⟨by omega, ?_, by omega, by omega⟩⟩, ⟨?_, ?_, fun j hj => ?_, ?_, ⟨hE.nw, fun i hi hi2 => ?_, ?_⟩, d4, d5, fun h5 => ?_⟩, ddp_nodup _, hdb, by omega, rfl, rfl⟩ (fun f3 S3 A3 hJ3 hE3 => hk _ _ _ A3 (.inl rfl) hJ3 hE3)
    · simp [put_some, e3]
    · simp [put_some, e4]
    · simp [put_some, e5]
    · simp [put_some]
    · simp [put_some, encI]
    · simp only [set_g]; rw [if_neg hb4, if_neg hb4]; exact g42
    · simp only [set_g]; rw [if_neg hb5, if_neg hb5]; exact g52'
    · show b4 < S2.n + 3 + 1; omega
    · show b5 < S2.n + 3 + 1; omega
    · show S.n + 2 < S2.n + 3 + 1; omega
    · simp [set_g]
    · exact hv.frame (fun i hi => by have := hvn i hi; simp only [set_g]; rw [if_neg (by omega), if_neg (by omega)])
    · have := hvn j hj
      exact ⟨by omega, by show j < S2.n + 3 + 1; omega, by omega, by omega, by omega, fun h5 => by have := hlt j h5; omega⟩
    · rw [List.take_zero, List.append_nil]
      exact hJ2 _ (by show S2.n ≤ S2.n + 3 + 1; omega) (fun i hi => by simp only [set_g]; rw [if_neg (by omega), if_neg (by omega)])
    · simp only [set_g]
      rw [if_neg (by omega), if_neg (by omega), hfr i (by show i < S.n + 4; omega)]
      exact hE.fr i hi hi2
    · show Sz.n ≤ S2.n + 3 + 1; omega
    · have := hlt _ h5; omega
theorem again_callR {P : Program} (hm : P.follows .mixedOrders = true) {ff fg f1 f2 fo fo1 fc : FuncId} (hI : IsS P fg (c_reach_walker_again f1 fo f2 ff) [] 4) (hI1 : IsS P f1 (c_reach_walker_again_1 ff) [] 4) (hI2 : Is P f2 (c_reach_walker_again_2 fc) [] 2) (hIo : Is P fo (c_reach_once fo1) [2] 1) (hIo1 : Is P fo1 c_reach_once_1 [] 3) (hc : ∀ (l : List Int) x, Len l → PureC P fc [encIs l, encI x] (encB (l.contains x)))
    {l : List Int} (hl : l.length ≤ 10000) {k : Int} {ps : List Rg} {pg : List Int} {q : Pat} (hq : FromOk P ff l q) {at_ : Int} (h0 : 0 ≤ at_) (h1 : at_ ≤ l.length) {tv : AV} {J : List Int → List Nat → St → Prop} {L : List Int} {A : List Nat} {S : St} {K : AV → St → Prop} (hT : Tlr P l.length tv J) (hJ : J L A S)
    (hk : ∀ S' A', J (L ++ agn (fun a => visits l q a) k l.length at_) A' S' → Ext A A' S S' → K (.tup []) S') : CallR P fg [encW l, encPat (.mk k ps pg [q]), encI at_, tv] S K := by
  refine hI.byC hm rfl ?_
  obtain ⟨ft, first, cap, htv, hcall⟩ := hT.call
  have hlt := hT.lt hJ
  have fin : ∀ (e : Exit) (f' : AF) (S' : St), (e = .normal ∨ e = .ret) → K (.tup []) S' → RetC [] K e f' S' := by
    rintro e f' S' (rfl | rfl) hK
    · exact ⟨[], rfl, hK⟩
    · exact ⟨[], rfl, hK⟩
  by_cases h6 : k = 6
  · subst h6
    simp [AW_seq, AW_reg, AW_regD, AW_block, AW_cond, AW_skip, AW_exit, AW_ret, AW_scp, condR_true, condR_false, AThen_normal, AThen_ret, AThen_exit, ABlock_normal, ABlock_ret, ABlock_exit, AScope_normal, AScope_ret, AScope_exit, RetK_ret, RetK_normal, retAV_one, retAV_two, retAV_three, retAV_nil, RG_nil, RG_op, RG_guard, gdR_tt, gdR_ff, gdR_tf, gdR_ft, gdR_un, RG_call, callQ_clo, contK_ap, opR_some, RD_nil, RD_op0, RD_op1, opD0_some, opD1_some, RD_call, callQD_clo, RD_guard, gdD_tt, gdD_ff, gdD_tf, gdD_ft, gdD_un, psh_nil, psh_cons, Apt_nil, Apt_nilT, Apt_true, Apt_false, Dis_def, runT_val, runT_rd, runT_wr, runT_new, runT_mv, ex, put_some, put_none, ev_t, ev_c, argF_zero, argF_succ, set_g, set_n, cells_v, cells_sl, cells_agg, cells_own, cells_ptr, cells_clo, cells_eptr, cells_mp, putc, exBslice, lfill, exField, exIdxV, exIdxP, exBox, exAlloc, exLoad, exStore, exFieldA, exIdxA, exLen, exPick, exUn, exBeq, exMM, exSeq, seqGo, exExt, binV, intOp, subc, AV.solid, S0, encI, encB, c_reach_walker_again, encW, encIs, encPat_eq, encRs]
    refine ag_tail hm hI1 hI2 hIo hIo1 hc hl (k := 6) (ps := ps) (pg := pg) hq h0 h1 (tv := tv) (b4 := S.n) (b5 := S.n + 1) (b6 := S.n + 2) (Sz := S) hT (A := A) (A' := A) (L := L) hlt ⟨?_, ?_, ?_, ?_, ?_, ?_, ?_, ⟨by omega, ?_⟩, ⟨by omega, ?_⟩, ⟨by omega, ?_⟩⟩ (hT.keep hJ (fun i hi => ?_) ?_) ⟨fun i hi => .inl hi, fun i hi hi2 => ?_, ?_⟩ (fun h5 => ?_) (fun h5 => ?_) (fun e f' S' A2 he hJ2 hE2 => fin e f' S' he (hk S' A2 ?_ hE2))
    · simp [put_some, argF_zero, argF_succ]
    · simp [put_some]
    · simp [put_some]
    · simp [put_some]
    · simp only [set_g]
      rw [if_neg (by omega), if_neg (by omega), if_pos trivial]; rfl
    · simp only [set_g]
      rw [if_neg (by omega), if_pos trivial, encPat_eq]; rfl
    · simp [set_g, encI]
    · show S.n < S.n + 3 + 3; omega
    · show S.n + 1 < S.n + 3 + 3; omega
    · show S.n + 2 < S.n + 3 + 3; omega
    · have := hlt i hi
      simp only [set_g]
      rw [if_neg (by omega), if_neg (by omega), if_neg (by omega)]
    · show S.n ≤ S.n + 3 + 3; omega
    · simp only [set_g]
      rw [if_neg (by omega), if_neg (by omega), if_neg (by omega)]
    · show S.n ≤ S.n + 3 + 3; omega
    · have := hlt _ h5; omega
    · have := hlt _ h5; omega
    · unfold agn; rw [if_pos rfl, List.nil_append]; exact hJ2
  · have h6' : (k != 6) = true := by simpa using h6
    simp [AW_seq, AW_reg, AW_regD, AW_block, AW_cond, AW_skip, AW_exit, AW_ret, AW_scp, condR_true, condR_false, AThen_normal, AThen_ret, AThen_exit, ABlock_normal, ABlock_ret, ABlock_exit, AScope_normal, AScope_ret, AScope_exit, RetK_ret, RetK_normal, retAV_one, retAV_two, retAV_three, retAV_nil, RG_nil, RG_op, RG_guard, gdR_tt, gdR_ff, gdR_tf, gdR_ft, gdR_un, RG_call, callQ_clo, contK_ap, opR_some, RD_nil, RD_op0, RD_op1, opD0_some, opD1_some, RD_call, callQD_clo, RD_guard, gdD_tt, gdD_ff, gdD_tf, gdD_ft, gdD_un, psh_nil, psh_cons, Apt_nil, Apt_nilT, Apt_true, Apt_false, Dis_def, runT_val, runT_rd, runT_wr, runT_new, runT_mv, ex, put_some, put_none, ev_t, ev_c, argF_zero, argF_succ, set_g, set_n, cells_v, cells_sl, cells_agg, cells_own, cells_ptr, cells_clo, cells_eptr, cells_mp, putc, exBslice, lfill, exField, exIdxV, exIdxP, exBox, exAlloc, exLoad, exStore, exFieldA, exIdxA, exLen, exPick, exUn, exBeq, exMM, exSeq, seqGo, exExt, binV, intOp, subc, AV.solid, S0, encI, encB, c_reach_walker_again, encW, encIs, encPat_eq, encRs, h6, h6', htv]
    have hc2 := hcall L A
    simp only [encI] at hc2
    refine hc2 _ _ _ h0 h1 (hT.keep hJ (fun i hi => ?_) (by show S.n ≤ S.n + 3 + 3 + 3; omega)) fun S3 A3 hJ3 hE3 => ?_
    · have := hlt i hi
      simp only [set_g]
      rw [if_neg (by omega), if_neg (by omega), if_neg (by omega)]
    · have hn3 : S.n + 3 + 3 + 3 ≤ S3.n := hE3.nn
      have hlow : ∀ i, i < S.n + 3 → i ∉ A → S3.g i = _ := fun i hi hi2 => hE3.fr i (by show i < S.n + 3 + 3 + 3; omega) hi2
      have hA3 : ∀ i, i < S.n + 3 → i ∉ A → i ∉ A3 := fun i hi hi2 h5 => by
        rcases hE3.nw i h5 with h6 | h6
        · exact hi2 h6
        · have h8 : S.n + 3 + 3 + 3 ≤ i := h6
          omega
      simp [AW_seq, AW_reg, AW_regD, AW_block, AW_cond, AW_skip, AW_exit, AW_ret, AW_scp, condR_true, condR_false, AThen_normal, AThen_ret, AThen_exit, ABlock_normal, ABlock_ret, ABlock_exit, AScope_normal, AScope_ret, AScope_exit, RetK_ret, RetK_normal, retAV_one, retAV_two, retAV_three, retAV_nil, RG_nil, RG_op, RG_guard, gdR_tt, gdR_ff, gdR_tf, gdR_ft, gdR_un, RG_call, callQ_clo, contK_ap, opR_some, RD_nil, RD_op0, RD_op1, opD0_some, opD1_some, RD_call, callQD_clo, RD_guard, gdD_tt, gdD_ff, gdD_tf, gdD_ft, gdD_un, psh_nil, psh_cons, Apt_nil, Apt_nilT, Apt_true, Apt_false, Dis_def, runT_val, runT_rd, runT_wr, runT_new, runT_mv, ex, put_some, put_none, ev_t, ev_c, argF_zero, argF_succ, set_g, set_n, cells_v, cells_sl, cells_agg, cells_own, cells_ptr, cells_clo, cells_eptr, cells_mp, putc, exBslice, lfill, exField, exIdxV, exIdxP, exBox, exAlloc, exLoad, exStore, exFieldA, exIdxA, exLen, exPick, exUn, exBeq, exMM, exSeq, seqGo, exExt, binV, intOp, subc, AV.solid, S0, encI, encB]
      refine ag_tail hm hI1 hI2 hIo hIo1 hc hl (k := k) (ps := ps) (pg := pg) hq h0 h1 (tv := tv) (b4 := S.n) (b5 := S.n + 1) (b6 := S.n + 2) (Sz := S) hT (A := A) (A' := A3) (L := L ++ [at_]) hlt ⟨?_, ?_, ?_, ?_, ?_, ?_, ?_, ⟨by omega, ?_⟩, ⟨by omega, ?_⟩, ⟨by omega, ?_⟩⟩ hJ3 ⟨fun i hi => ?_, fun i hi hi2 => ?_, ?_⟩ (hA3 _ (by omega) (fun h5 => ?_)) (hA3 _ (by omega) (fun h5 => ?_)) (fun e f' S' A2 he hJ2 hE2 => fin e f' S' he (hk S' A2 ?_ hE2))
      · simp [put_some, argF_zero, argF_succ, htv]
      · simp [put_some]
      · simp [put_some]
      · simp [put_some]
      · refine (hlow S.n (by omega) (fun h5 => by have := hlt _ h5; omega)).trans ?_
        simp only [set_g]
        rw [if_neg (by omega), if_neg (by omega), if_pos trivial]; rfl
      · refine (hlow (S.n + 1) (by omega) (fun h5 => by have := hlt _ h5; omega)).trans ?_
        simp only [set_g]
        rw [if_neg (by omega), if_pos trivial, encPat_eq]; rfl
      · refine (hlow (S.n + 2) (by omega) (fun h5 => by have := hlt _ h5; omega)).trans ?_
        simp [set_g, encI]
      · omega
      · omega
      · omega
      · rcases hE3.nw i hi with h5 | h5
        · exact .inl h5
        · exact .inr (by have h8 : S.n + 3 + 3 + 3 ≤ i := h5; omega)
      · refine (hlow i (by omega) hi2).trans ?_
        simp only [set_g]
        rw [if_neg (by omega), if_neg (by omega), if_neg (by omega)]
      · omega
      · have := hlt _ h5; omega
      · have := hlt _ h5; omega
      · unfold agn; rw [if_neg h6, ← List.append_assoc]; exact hJ2
end Go.Rf

