import Derived.Test.YtfmmdlockfbfmaaRfR11
/- Own work: reach.Turn; how much a book is. -/
set_option linter.unusedVariables false
set_option linter.unusedSimpArgs false
namespace Go.Rf
open Go.RowKit

def c_tu_loop (f_reach_Turn : FuncId) : AC :=
  (.block 0 (.loop (.seq (.reg none [
     ⟨(some 12), .bin .lss (.t 11) (.t 10), none, none⟩])
    (.seq (.cond (.t 12) .skip (.exit 0))
    (.seq (.block 1 (.seq (.reg none [
      ⟨(some 13), .idxA 4 (.t 9) (.t 11), none, none⟩,
      ⟨(some 14), .load (some 4) (.t 13), none, none⟩,
      ⟨(some 5), .alloc (.agg [(.v (.int .i64 0)), (.sl true []), (.sl true []), (.sl true [])]) 4, none, none⟩,
      ⟨none, .store 4 (.t 5) (.t 14), none, none⟩])
     (.reg (some []) [
      ⟨(some 15), .fieldA 3 (.t 3), none, none⟩,
      ⟨(some 16), .load none (.t 15), none, none⟩,
      ⟨(some 17), .load (some 4) (.t 5), none, none⟩,
      ⟨(some 18), .mv (.c .junk), none, (some ((.c (.clo f_reach_Turn [] [])), [(.t 17)]))⟩,
      ⟨(some 19), .bslice 4 1 (.agg [(.v (.int .i64 0)), (.sl true []), (.sl true []), (.sl true [])]) [(0, (.t 18))], none, none⟩,
      ⟨(some 20), .app 4 80 (.t 16) (.t 19), none, none⟩,
      ⟨(some 21), .fieldA 3 (.t 3), none, none⟩,
      ⟨none, .store 1 (.t 21) (.t 20), none, none⟩])))
    (.reg none [
     ⟨(some 22), .bin .add (.t 11) (.c (.v (.int .i64 1))), none, none⟩,
     ⟨(some 11), .mv (.t 22), none, none⟩]))))))
def c_tu_end : AC :=
  (.seq (.reg none [
   ⟨(some 29), .load (some 4) (.t 3), none, none⟩,
   ⟨none, .store 4 (.t 2) (.t 29), none, none⟩])
  .ret)
def c_reach_Turn (f_reach_Turn f_slices_Reverse_Sapi_Pat_api_Pat_ : FuncId) : AC :=
  (.seq (.reg none [
   ⟨(some 1), .box 4 (.t 0), none, none⟩,
   ⟨(some 2), .alloc (.agg [(.v (.int .i64 0)), (.sl true []), (.sl true []), (.sl true [])]) 4, none, none⟩])
  (.seq (.reg none [
   ⟨(some 6), .load (some 4) (.t 1), none, none⟩,
   ⟨(some 3), .alloc (.agg [(.v (.int .i64 0)), (.sl true []), (.sl true []), (.sl true [])]) 4, none, none⟩,
   ⟨none, .store 4 (.t 3) (.t 6), none, none⟩])
  (.seq (.reg none [
   ⟨(some 7), .fieldA 3 (.t 3), none, none⟩,
   ⟨none, .store 1 (.t 7) (.c (.sl true [])), none, none⟩])
  (.seq (.seq (.reg none [
   ⟨(some 8), .fieldA 3 (.t 1), none, none⟩,
   ⟨(some 9), .load none (.t 8), none, none⟩,
   ⟨(some 10), .len (.t 9), none, none⟩,
   ⟨(some 11), .mv (.c (.v (.int .i64 0))), none, none⟩])
  (c_tu_loop f_reach_Turn))
  (.seq (.seq (.reg none [
   ⟨(some 23), .fieldA 0 (.t 1), none, none⟩,
   ⟨(some 24), .load none (.t 23), none, none⟩,
   ⟨(some 25), .bin .eql (.t 24) (.c (.v (.int .i64 3))), none, none⟩])
  (.cond (.t 25) (.reg none [
    ⟨(some 26), .fieldA 3 (.t 3), none, none⟩,
    ⟨(some 27), .load none (.t 26), none, none⟩,
    ⟨(some 28), .mv (.c .junk), none, (some ((.c (.clo f_slices_Reverse_Sapi_Pat_api_Pat_ [] [])), [(.t 27)]))⟩]) .skip))
  c_tu_end)))))
def c_slices_Reverse_Sapi_Pat_api_Pat_ : AC :=
  (.seq (.reg none [
   ⟨(some 4), .mv (.t 0), none, none⟩,
   ⟨(some 5), .len (.t 4), none, none⟩,
   ⟨(some 6), .bin .sub (.t 5) (.c (.v (.int .i64 1))), none, none⟩,
   ⟨(some 2), .mv (.c (.v (.int .i64 0))), none, none⟩,
   ⟨(some 3), .mv (.t 6), none, none⟩])
  (.block 0 (.loop (.seq (.seq (.reg none [
     ⟨(some 7), .mv (.t 2), none, none⟩,
     ⟨(some 8), .mv (.t 3), none, none⟩,
     ⟨(some 9), .bin .lss (.t 7) (.t 8), none, none⟩])
    (.cond (.t 9) .skip (.exit 0)))
    (.seq (.block 1 (.reg (some [[], [], [], [], [], [], [], [], [], [], [], [], [], [false, false, false, false, false, false, false, false, false, true, true]]) [
      ⟨(some 14), .mv (.t 0), none, none⟩,
      ⟨(some 15), .mv (.t 2), none, none⟩,
      ⟨(some 16), .mv (.t 0), none, none⟩,
      ⟨(some 17), .mv (.t 3), none, none⟩,
      ⟨(some 18), .mv (.t 0), none, none⟩,
      ⟨(some 19), .mv (.t 3), none, none⟩,
      ⟨(some 20), .idxA 4 (.t 18) (.t 19), none, none⟩,
      ⟨(some 21), .load (some 4) (.t 20), none, none⟩,
      ⟨(some 22), .mv (.t 0), none, none⟩,
      ⟨(some 23), .mv (.t 2), none, none⟩,
      ⟨(some 24), .idxA 4 (.t 22) (.t 23), none, none⟩,
      ⟨(some 25), .load (some 4) (.t 24), none, none⟩,
      ⟨(some 26), .idxA 4 (.t 14) (.t 15), none, none⟩,
      ⟨none, .store 4 (.t 26) (.t 21), none, none⟩,
      ⟨(some 27), .idxA 4 (.t 16) (.t 17), none, none⟩,
      ⟨none, .store 4 (.t 27) (.t 25), none, none⟩]))
    (.reg none [
     ⟨(some 10), .mv (.t 2), none, none⟩,
     ⟨(some 11), .bin .add (.t 10) (.c (.v (.int .i64 1))), none, none⟩,
     ⟨(some 12), .mv (.t 3), none, none⟩,
     ⟨(some 13), .bin .sub (.t 12) (.c (.v (.int .i64 1))), none, none⟩,
     ⟨(some 2), .mv (.t 11), none, none⟩,
     ⟨(some 3), .mv (.t 13), none, none⟩]))))))
/-! ### a list turned round in its place -/
def rvAt {X : Type} (l : List X) (i : Nat) : List X := (l.drop (l.length - i)).reverse ++ ((l.drop i).take (l.length - 2 * i)) ++ (l.take i).reverse
theorem rvAt_zero {X : Type} (l : List X) : rvAt l 0 = l := by simp [rvAt]
theorem rvAt_len {X : Type} (l : List X) (i : Nat) (h : 2 * i ≤ l.length) : (rvAt l i).length = l.length := by
  simp only [rvAt, List.length_append, List.length_reverse, List.length_drop, List.length_take]; omega
theorem rvAt_get {X : Type} (l : List X) (i : Nat) (h : 2 * i ≤ l.length) (k : Nat) (hk : k < l.length) : (rvAt l i)[k]? = if k < i ∨ l.length ≤ k + i then l[l.length - 1 - k]? else l[k]? := by
  unfold rvAt
  by_cases h1 : k < i
  · rw [if_pos (.inl h1), List.getElem?_append_left (by simp; omega), List.getElem?_append_left (by simp; omega), List.getElem?_reverse (by simp; omega), List.getElem?_drop]
    congr 1; simp; omega
  · by_cases h2 : l.length ≤ k + i
    · rw [if_pos (.inr h2), List.getElem?_append_right (by simp; omega), List.getElem?_reverse (by simp; omega), List.getElem?_take, if_pos (by simp; omega)]
      congr 1; simp; omega
    · rw [if_neg (by omega), List.getElem?_append_left (by simp; omega), List.getElem?_append_right (by simp; omega), List.getElem?_take, if_pos (by simp; omega), List.getElem?_drop]
      congr 1; simp; omega
theorem rvAt_succ {X : Type} (l : List X) {i : Nat} (h : 2 * i + 1 < l.length) (hl : (rvAt l i).length = l.length) :
    rvAt l (i + 1) = ((rvAt l i).set i ((rvAt l i)[l.length - 1 - i]'(by omega))).set (l.length - 1 - i) ((rvAt l i)[i]'(by omega)) := by
  refine List.ext_getElem? fun k => ?_
  by_cases hk : k < l.length
  · have b1 := rvAt_get l i (by omega) i (by omega)
    have b2 := rvAt_get l i (by omega) (l.length - 1 - i) (by omega)
    rw [List.getElem?_eq_getElem (by omega)] at b1 b2
    rw [rvAt_get l (i + 1) (by omega) k hk, List.getElem?_set, List.getElem?_set, rvAt_get l i (by omega) k hk]
    simp only [List.length_set, hl]
    by_cases e1 : l.length - 1 - i = k
    · subst e1
      rw [if_pos rfl, if_pos hk, if_pos (by omega), b1, if_neg (by omega)]
      congr 1; omega
    · rw [if_neg e1]
      by_cases e2 : i = k
      · subst e2
        rw [if_pos rfl, if_pos hk, if_pos (by omega), b2, if_neg (by omega)]
      · rw [if_neg e2]
        by_cases hc : k < i ∨ l.length ≤ k + i
        · rw [if_pos hc, if_pos (by omega)]
        · rw [if_neg hc, if_neg (by omega)]
  · rw [List.getElem?_eq_none (by rw [rvAt_len l (i + 1) (by omega)]; omega), List.getElem?_eq_none (by simp [hl]; omega)]
theorem rvAt_end {X : Type} (l : List X) {i : Nat} (h : l.length ≤ 2 * i + 1) (h2 : 2 * i ≤ l.length) : rvAt l i = l.reverse := by
  refine List.ext_getElem? fun k => ?_
  by_cases hk : k < l.length
  · rw [rvAt_get l i h2 k hk, List.getElem?_reverse hk]
    by_cases hc : k < i ∨ l.length ≤ k + i
    · rw [if_pos hc]
    · rw [if_neg hc]; congr 1; omega
  · rw [List.getElem?_eq_none (by rw [rvAt_len l i h2]; omega), List.getElem?_eq_none (by simp; omega)]
theorem Pat_sub (p : Pat) : subc (some 4) (encPat p) 0 = some (encPat p) := by
  obtain ⟨k, s, g, ks⟩ := p
  rw [encPat_eq]; simp [subc, AV.cells]
theorem Pat_putc (p q : Pat) : putc (encPat p) 0 (encPat q) = encPat q := by
  obtain ⟨k, s, g, ks⟩ := p
  obtain ⟨k2, s2, g2, ks2⟩ := q
  rw [encPat_eq, encPat_eq]; simp [putc, AV.cells]
def rvpI (S : St) (id : Nat) (l : List Pat) (i : Nat) (f : AF) (S' : St) : Prop := f 0 = .own id 0 l.length ∧ f 2 = encI i ∧ f 3 = encI ((l.length : Int) - 1 - i) ∧ S'.g = (S.set id (some (.arr 4 ((rvAt l i).map encPat)))).g ∧ S.n ≤ S'.n ∧ 2 * i ≤ l.length
def HRevP (P : Program) (f : FuncId) : Prop := ∀ (S : St) (id : Nat) (l : List Pat) (K : AV → St → Prop), S.g id = some (.arr 4 (l.map encPat)) → l.length ≤ 1000000 → (∀ n, S.n ≤ n → K (.tup []) ⟨n, (S.set id (some (.arr 4 (l.reverse.map encPat)))).g⟩) → CallR P f [.own id 0 l.length] S K
theorem HRevP_of {P : Program} (hm : P.follows .mixedOrders = true) {f : FuncId} (h : Is P f c_slices_Reverse_Sapi_Pat_api_Pat_ [] 1) : HRevP P f := by
  intro S id l K hg hl hk
  refine h.callR hm rfl ?_
  have hw0 := wrap_in ((l.length : Int) - 1) (by omega)
  simp [AW_seq, AW_reg, AW_regD, AW_block, AW_cond, AW_skip, AW_exit, AW_ret, AW_scp, condR_true, condR_false, AThen_normal, AThen_ret, AThen_exit, ABlock_normal, ABlock_ret, ABlock_exit, AScope_normal, AScope_ret, AScope_exit, RetK_ret, RetK_normal, retAV_one, retAV_two, retAV_three, retAV_nil, RG_nil, RG_op, RG_guard, gdR_tt, gdR_ff, gdR_tf, gdR_ft, gdR_un, RG_call, callQ_clo, contK_ap, opR_some, RD_nil, RD_op0, RD_op1, opD0_some, opD1_some, RD_call, callQD_clo, RD_guard, gdD_tt, gdD_ff, gdD_tf, gdD_ft, gdD_un, psh_nil, psh_cons, Apt_nil, Apt_nilT, Apt_true, Apt_false, Dis_def, runT_val, runT_rd, runT_wr, runT_new, runT_mv, ex, put_some, put_none, ev_t, ev_c, argF_zero, argF_succ, set_g, set_n, cells_v, cells_sl, cells_agg, cells_own, cells_ptr, cells_clo, cells_eptr, cells_mp, putc, exBslice, lfill, exField, exIdxV, exIdxP, exBox, exAlloc, exLoad, exStore, exFieldA, exIdxA, exLen, exPick, exUn, exBeq, exMM, exSeq, seqGo, exExt, binV, intOp, subc, AV.solid, S0, encI, encB, c_slices_Reverse_Sapi_Pat_api_Pat_, hw0]
  refine AW_for (l.length / 2) (rvpI S id l) ?_ ?_
  · refine ⟨?_, ?_, ?_, ?_, ?_, ?_⟩
    · simp [put_some, argF_zero]
    · simp [put_some, encI]
    · simp [put_some, encI]
    · rw [rvAt_zero]
      funext j
      simp only [set_g]
      split
      · rename_i e; rw [e]; exact hg
      · rfl
    · simp
    · omega
  · rintro i f S' hi ⟨e0, e2, e3, gq, hn, h2i⟩
    have hlen := rvAt_len l i h2i
    have gid : S'.g id = some (.arr 4 ((rvAt l i).map encPat)) := by rw [gq]; simp [set_g]
    by_cases hlt : 2 * i + 1 < l.length
    · have hlt1 : (i : Int) < (l.length : Int) - 1 - i := by omega
      have j1 : ((l.length : Int) - 1 - i).toNat = l.length - 1 - i := by omega
      have j0 : (0 : Int) ≤ (l.length : Int) - 1 - i := by omega
      have j2 : (l.length : Int) - 1 - i < l.length := by omega
      have hil : (i : Int) < l.length := by omega
      have a1 : (rvAt l i)[i]? = some ((rvAt l i)[i]'(by omega)) := List.getElem?_eq_getElem (by omega)
      have a2 : (rvAt l i)[l.length - 1 - i]? = some ((rvAt l i)[l.length - 1 - i]'(by omega)) := List.getElem?_eq_getElem (by omega)
      have hne : ¬ (i = l.length - 1 - i) := by omega
      have j3 : (i : Int) ≤ (l.length : Int) - 1 := by omega
      have j5 : l.length ≤ (rvAt l i).length := by omega
      have pt : ∀ p : Pat, AV.agg (List.take 4 (encPat p).cells) = encPat p := fun p => by obtain ⟨k, s, g, ks⟩ := p; rw [encPat_eq]; simp [AV.cells]
      have so : ∀ p : Pat, (encPat p).solid = true := fun p => by obtain ⟨k, s, g, ks⟩ := p; rw [encPat_eq]; rfl
      simp [AW_seq, AW_reg, AW_regD, AW_block, AW_cond, AW_skip, AW_exit, AW_ret, AW_scp, condR_true, condR_false, AThen_normal, AThen_ret, AThen_exit, ABlock_normal, ABlock_ret, ABlock_exit, AScope_normal, AScope_ret, AScope_exit, RetK_ret, RetK_normal, retAV_one, retAV_two, retAV_three, retAV_nil, RG_nil, RG_op, RG_guard, gdR_tt, gdR_ff, gdR_tf, gdR_ft, gdR_un, RG_call, callQ_clo, contK_ap, opR_some, RD_nil, RD_op0, RD_op1, opD0_some, opD1_some, RD_call, callQD_clo, RD_guard, gdD_tt, gdD_ff, gdD_tf, gdD_ft, gdD_un, psh_nil, psh_cons, Apt_nil, Apt_nilT, Apt_true, Apt_false, Dis_def, runT_val, runT_rd, runT_wr, runT_new, runT_mv, ex, put_some, put_none, ev_t, ev_c, argF_zero, argF_succ, set_g, set_n, cells_v, cells_sl, cells_agg, cells_own, cells_ptr, cells_clo, cells_eptr, cells_mp, putc, exBslice, lfill, exField, exIdxV, exIdxP, exBox, exAlloc, exLoad, exStore, exFieldA, exIdxA, exLen, exPick, exUn, exBeq, exMM, exSeq, seqGo, exExt, binV, intOp, subc, AV.solid, S0, encI, encB, e0, e2, e3, gid, hlt1, j1, j0, j2, hil, hlen, a1, a2, hne, j3, j5, Pat_sub, Pat_putc, encPat_cells, so]
      rw [wrap_in _ (by omega), wrap_in _ (by omega)]
      refine ⟨by omega, ?_, ?_, ?_, ?_, ?_, by omega⟩
      · simp [put_some, e0]
      · simp [put_some, encI]
      · simp [put_some, encI]; omega
      · rw [rvAt_succ l hlt hlen]
        funext j
        simp only [set_g, gq]
        split
        · simp [List.map_set, pt]
        · rfl
      · simp [set_n]; omega
    · have hlt1 : ¬ (i : Int) < (l.length : Int) - 1 - i := by omega
      rw [rvAt_end l (by omega) h2i] at gq
      simp [AW_seq, AW_reg, AW_regD, AW_block, AW_cond, AW_skip, AW_exit, AW_ret, AW_scp, condR_true, condR_false, AThen_normal, AThen_ret, AThen_exit, ABlock_normal, ABlock_ret, ABlock_exit, AScope_normal, AScope_ret, AScope_exit, RetK_ret, RetK_normal, retAV_one, retAV_two, retAV_three, retAV_nil, RG_nil, RG_op, RG_guard, gdR_tt, gdR_ff, gdR_tf, gdR_ft, gdR_un, RG_call, callQ_clo, contK_ap, opR_some, RD_nil, RD_op0, RD_op1, opD0_some, opD1_some, RD_call, callQD_clo, RD_guard, gdD_tt, gdD_ff, gdD_tf, gdD_ft, gdD_un, psh_nil, psh_cons, Apt_nil, Apt_nilT, Apt_true, Apt_false, Dis_def, runT_val, runT_rd, runT_wr, runT_new, runT_mv, ex, put_some, put_none, ev_t, ev_c, argF_zero, argF_succ, set_g, set_n, cells_v, cells_sl, cells_agg, cells_own, cells_ptr, cells_clo, cells_eptr, cells_mp, putc, exBslice, lfill, exField, exIdxV, exIdxP, exBox, exAlloc, exLoad, exStore, exFieldA, exIdxA, exLen, exPick, exUn, exBeq, exMM, exSeq, seqGo, exExt, binV, intOp, subc, AV.solid, S0, encI, encB, e0, e2, e3, hlt1]
      have := hk (S'.n + 3) (by omega)
      rw [← gq] at this
      exact this
/-! ### forms turned round -/
/-- As Vec, from the block's start on. -/
def Vec0 (g : Nat → Option Blk) (v : AV) (es : Nat) (xs : List AV) : Prop := (v = .sl true [] ∧ xs = []) ∨ ∃ id, v = .own id 0 xs.length ∧ g id = some (.arr es xs)
theorem Vec0.vec {g : Nat → Option Blk} {v : AV} {es : Nat} {xs : List AV} (h : Vec0 g v es xs) : Vec g v es xs := by
  rcases h with ⟨rfl, rfl⟩ | ⟨id, rfl, h⟩
  · exact .nil
  · exact .mk h
theorem Vec0.frame {g g' : Nat → Option Blk} {v : AV} {es : Nat} {xs : List AV} (h : Vec0 g v es xs) (hs : ∀ i ∈ v.ids, g' i = g i) : Vec0 g' v es xs := by
  rcases h with h | ⟨id, rfl, h⟩
  · exact .inl h
  · exact .inr ⟨id, rfl, by rw [hs id (by simp [AV.ids])]; exact h⟩
structure TuS (p : Pat) (b0 b1 b3 : Nat) (f : AF) (S : St) : Prop where
  e1 : f 1 = .ptr b0 0 0
  e2 : f 2 = .ptr b1 0 0
  e3 : f 3 = .ptr b3 0 0
  e9 : f 9 = .sl false (p.kids.map encPat)
  e10 : f 10 = encI p.kids.length
  g0 : S.g b0 = some (.arr 4 [encPat p])
  g1 : S.g b1 = some (.arr 4 [.agg [.v (.int .i64 0), .sl true [], .sl true [], .sl true []]])
  n0 : b0 < S.n ∧ b1 < S.n ∧ b3 < S.n
def TuI (p : Pat) (b0 b1 b3 : Nat) (i : Nat) (f : AF) (S : St) : Prop := TuS p b0 b1 b3 f S ∧ f 11 = encI i ∧
  ∃ v, S.g b3 = some (.arr 4 [.agg [encI p.kind, encRs p.set, encIs p.signs, v]]) ∧ Vec0 S.g v 4 ((turnPs (p.kids.take i)).map encPat) ∧ (∀ j ∈ v.ids, j ≠ b0 ∧ j ≠ b1 ∧ j ≠ b3 ∧ j < S.n) ∧ v.atom = true
theorem turnPs_app (a b : List Pat) : turnPs (a ++ b) = turnPs a ++ turnPs b := by simp [turnPs_eq]
theorem turnPs_len (a : List Pat) : (turnPs a).length = a.length := by simp [turnPs_eq]
theorem cells_Ps (l : List Pat) : ∀ z ∈ l.map encPat, z.cells.length = 4 := by
  intro z hz; obtain ⟨p, _, rfl⟩ := List.mem_map.mp hz; exact encPat_cells p
theorem tu_loop {P : Program} {ft : FuncId} {p : Pat} (hk : p.kids.length ≤ 100000) (h : ∀ q ∈ p.kids, PureC P ft [encPat q] (encPat (turnP q))) {b0 b1 b3 : Nat} (hb : b0 ≠ b1 ∧ b0 ≠ b3 ∧ b1 ≠ b3) {f : AF} {S : St} {Q : Exit → AF → St → Prop}
    (h0 : TuI p b0 b1 b3 0 f S) (hQ : ∀ f' S', TuI p b0 b1 b3 p.kids.length f' S' → Q .normal f' S') : AW P (c_tu_loop ft) Q f S := by
  simp [AW_seq, AW_reg, AW_regD, AW_block, AW_cond, AW_skip, AW_exit, AW_ret, AW_scp, condR_true, condR_false, AThen_normal, AThen_ret, AThen_exit, ABlock_normal, ABlock_ret, ABlock_exit, AScope_normal, AScope_ret, AScope_exit, RetK_ret, RetK_normal, retAV_one, retAV_two, retAV_three, retAV_nil, RG_nil, RG_op, RG_guard, gdR_tt, gdR_ff, gdR_tf, gdR_ft, gdR_un, RG_call, callQ_clo, contK_ap, opR_some, RD_nil, RD_op0, RD_op1, opD0_some, opD1_some, RD_call, callQD_clo, RD_guard, gdD_tt, gdD_ff, gdD_tf, gdD_ft, gdD_un, psh_nil, psh_cons, Apt_nil, Apt_nilT, Apt_true, Apt_false, Dis_def, runT_val, runT_rd, runT_wr, runT_new, runT_mv, ex, put_some, put_none, ev_t, ev_c, argF_zero, argF_succ, set_g, set_n, cells_v, cells_sl, cells_agg, cells_own, cells_ptr, cells_clo, cells_eptr, cells_mp, putc, exBslice, lfill, exField, exIdxV, exIdxP, exBox, exAlloc, exLoad, exStore, exFieldA, exIdxA, exLen, exPick, exUn, exBeq, exMM, exSeq, seqGo, exExt, binV, intOp, subc, AV.solid, S0, encI, encB, c_tu_loop]
  refine AW_for p.kids.length (TuI p b0 b1 b3) h0 ?_
  rintro i f S hi ⟨⟨e1, e2, e3, e9, e10, g0, g1, n0⟩, e11, v, g3, hv, hd, hva⟩
  by_cases hlt : i < p.kids.length
  · have hg : p.kids[i]? = some p.kids[i] := List.getElem?_eq_getElem hlt
    have hq := h _ (List.getElem_mem hlt)
    have hc := closed_Pat p.kids[i]
    have hct := closed_Pat (turnP p.kids[i])
    have htk : turnPs (p.kids.take (i + 1)) = turnPs (p.kids.take i) ++ [turnP p.kids[i]] := by rw [List.take_add_one, hg, turnPs_app]; rfl
    have hlen : (turnPs (p.kids.take i)).length = i := by rw [turnPs_len]; simp; omega
    obtain ⟨n0a, n0b, n0c⟩ := n0
    have k0 : ¬ b0 = S.n + 1 + 2 := by omega
    have k1 : ¬ b1 = S.n + 1 + 2 := by omega
    have k3 : ¬ b3 = S.n + 1 + 2 := by omega
    have hq' := hq
    have hc' := hc
    generalize hX : turnP p.kids[i] = tp at *
    obtain ⟨x1, x2, x3, x4, hx⟩ : ∃ x1 x2 x3 x4 : AV, encPat p.kids[i] = .agg [x1, x2, x3, x4] := by
      obtain ⟨k, s, g, ks⟩ := p.kids[i]; rw [encPat_eq]; exact ⟨_, _, _, _, rfl⟩
    obtain ⟨y1, y2, y3, y4, hy⟩ : ∃ x1 x2 x3 x4 : AV, encPat tp = .agg [x1, x2, x3, x4] := by
      obtain ⟨k, s, g, ks⟩ := tp; rw [encPat_eq]; exact ⟨_, _, _, _, rfl⟩
    rw [hx, hy] at hq'
    rw [hx] at hc'
    rw [hy] at hct
    have hva2 : v.cells = [v] := AV.cells_atom hva
    have d1 : ∀ n g, CallD P ft [.agg [x1, x2, x3, x4]] ⟨n, g⟩ [] (.agg [y1, y2, y3, y4]) := fun n g => CallD.kl hq' (cl_cons hc' cl_nil) hct
    simp [AW_seq, AW_reg, AW_regD, AW_block, AW_cond, AW_skip, AW_exit, AW_ret, AW_scp, condR_true, condR_false, AThen_normal, AThen_ret, AThen_exit, ABlock_normal, ABlock_ret, ABlock_exit, AScope_normal, AScope_ret, AScope_exit, RetK_ret, RetK_normal, retAV_one, retAV_two, retAV_three, retAV_nil, RG_nil, RG_op, RG_guard, gdR_tt, gdR_ff, gdR_tf, gdR_ft, gdR_un, RG_call, callQ_clo, contK_ap, opR_some, RD_nil, RD_op0, RD_op1, opD0_some, opD1_some, RD_call, callQD_clo, RD_guard, gdD_tt, gdD_ff, gdD_tf, gdD_ft, gdD_un, psh_nil, psh_cons, Apt_nil, Apt_nilT, Apt_true, Apt_false, Dis_def, runT_val, runT_rd, runT_wr, runT_new, runT_mv, ex, put_some, put_none, ev_t, ev_c, argF_zero, argF_succ, set_g, set_n, cells_v, cells_sl, cells_agg, cells_own, cells_ptr, cells_clo, cells_eptr, cells_mp, putc, exBslice, lfill, exField, exIdxV, exIdxP, exBox, exAlloc, exLoad, exStore, exFieldA, exIdxA, exLen, exPick, exUn, exBeq, exMM, exSeq, seqGo, exExt, binV, intOp, subc, AV.solid, S0, encI, encB, e1, e2, e3, e9, e10, e11, g0, g1, g3, hlt, hg, hx, k0, k1, k3, hva2]
    refine ⟨.agg [y1, y2, y3, y4], ⟨[], d1 _ _⟩, ?_⟩
    simp [AW_seq, AW_reg, AW_regD, AW_block, AW_cond, AW_skip, AW_exit, AW_ret, AW_scp, condR_true, condR_false, AThen_normal, AThen_ret, AThen_exit, ABlock_normal, ABlock_ret, ABlock_exit, AScope_normal, AScope_ret, AScope_exit, RetK_ret, RetK_normal, retAV_one, retAV_two, retAV_three, retAV_nil, RG_nil, RG_op, RG_guard, gdR_tt, gdR_ff, gdR_tf, gdR_ft, gdR_un, RG_call, callQ_clo, contK_ap, opR_some, RD_nil, RD_op0, RD_op1, opD0_some, opD1_some, RD_call, callQD_clo, RD_guard, gdD_tt, gdD_ff, gdD_tf, gdD_ft, gdD_un, psh_nil, psh_cons, Apt_nil, Apt_nilT, Apt_true, Apt_false, Dis_def, runT_val, runT_rd, runT_wr, runT_new, runT_mv, ex, put_some, put_none, ev_t, ev_c, argF_zero, argF_succ, set_g, set_n, cells_v, cells_sl, cells_agg, cells_own, cells_ptr, cells_clo, cells_eptr, cells_mp, putc, exBslice, lfill, exField, exIdxV, exIdxP, exBox, exAlloc, exLoad, exStore, exFieldA, exIdxA, exLen, exPick, exUn, exBeq, exMM, exSeq, seqGo, exExt, binV, intOp, subc, AV.solid, S0, encI, encB, e1, e2, e3, e9, e10, e11, g0, g1, g3, hlt, hg, hx, k0, k1, k3, hva2]
    rw [Vec.app (hv.vec.frame (fun j hj => ?_)) (cells_Ps _) (by simp [AV.cells]) (by rw [List.length_map, hlen]; unfold appOk; omega)]
    · have k5 : ¬ b3 = S.n + 1 + 4 + 5 := by omega
      have w3 : ∀ S : St, (S.without v).g b3 = S.g b3 := fun S => without_g b3 (fun hh => (hd b3 hh).2.2.1 rfl)
      have w0 : ∀ S : St, (S.without v).g b0 = S.g b0 := fun S => without_g b0 (fun hh => (hd b0 hh).1 rfl)
      have w1 : ∀ S : St, (S.without v).g b1 = S.g b1 := fun S => without_g b1 (fun hh => (hd b1 hh).2.1 rfl)
      simp [AW_seq, AW_reg, AW_regD, AW_block, AW_cond, AW_skip, AW_exit, AW_ret, AW_scp, condR_true, condR_false, AThen_normal, AThen_ret, AThen_exit, ABlock_normal, ABlock_ret, ABlock_exit, AScope_normal, AScope_ret, AScope_exit, RetK_ret, RetK_normal, retAV_one, retAV_two, retAV_three, retAV_nil, RG_nil, RG_op, RG_guard, gdR_tt, gdR_ff, gdR_tf, gdR_ft, gdR_un, RG_call, callQ_clo, contK_ap, opR_some, RD_nil, RD_op0, RD_op1, opD0_some, opD1_some, RD_call, callQD_clo, RD_guard, gdD_tt, gdD_ff, gdD_tf, gdD_ft, gdD_un, psh_nil, psh_cons, Apt_nil, Apt_nilT, Apt_true, Apt_false, Dis_def, runT_val, runT_rd, runT_wr, runT_new, runT_mv, ex, put_some, put_none, ev_t, ev_c, argF_zero, argF_succ, set_g, set_n, cells_v, cells_sl, cells_agg, cells_own, cells_ptr, cells_clo, cells_eptr, cells_mp, putc, exBslice, lfill, exField, exIdxV, exIdxP, exBox, exAlloc, exLoad, exStore, exFieldA, exIdxA, exLen, exPick, exUn, exBeq, exMM, exSeq, seqGo, exExt, binV, intOp, subc, AV.solid, S0, encI, encB, e1, e2, e3, e9, e10, e11, g0, g1, g3, hlt, hg, hx, k0, k1, k3, k5, w3, hva2, without_n]
      rw [wrap_in _ (by omega)]
      refine ⟨hlt, ⟨?_, ?_, ?_, ?_, ?_, ?_, ?_, ?_⟩, ?_, .own (S.n + 1 + 4 + 5) 0 (i + 1), ?_, ?_, ?_, rfl⟩
      · simp [put_some, e1]
      · simp [put_some, e2]
      · simp [put_some, e3]
      · simp [put_some, e9]
      · simp [put_some, e10]
      · have : ¬ b0 = S.n + 1 + 4 + 5 := by omega
        simp [set_g, this, w0, k0, hb.2.1, g0]
      · have : ¬ b1 = S.n + 1 + 4 + 5 := by omega
        simp [set_g, this, w1, k1, hb.2.2, g1]
      · simp [set_n, without_n]; omega
      · simp [put_some, encI]
      · simp [set_g, hlen, encI]
      · rw [htk, List.map_append]
        rw [List.map_cons, List.map_nil, hy]
        refine .inr ⟨S.n + 1 + 4 + 5, by simp [hlen], ?_⟩
        have : ¬ S.n + 1 + 4 + 5 = b3 := by omega
        simp [set_g, this]
      · intro j hj
        simp only [AV.ids, List.mem_cons, List.not_mem_nil, or_false] at hj
        subst hj
        simp only [set_n, without_n]
        omega
    · obtain ⟨a1, a2, a3, a4⟩ := hd j hj
      have : ¬ j = S.n + 1 + 2 := by omega
      simp [set_g, this]
  · have hke : i = p.kids.length := by omega
    subst hke
    simp [AW_seq, AW_reg, AW_regD, AW_block, AW_cond, AW_skip, AW_exit, AW_ret, AW_scp, condR_true, condR_false, AThen_normal, AThen_ret, AThen_exit, ABlock_normal, ABlock_ret, ABlock_exit, AScope_normal, AScope_ret, AScope_exit, RetK_ret, RetK_normal, retAV_one, retAV_two, retAV_three, retAV_nil, RG_nil, RG_op, RG_guard, gdR_tt, gdR_ff, gdR_tf, gdR_ft, gdR_un, RG_call, callQ_clo, contK_ap, opR_some, RD_nil, RD_op0, RD_op1, opD0_some, opD1_some, RD_call, callQD_clo, RD_guard, gdD_tt, gdD_ff, gdD_tf, gdD_ft, gdD_un, psh_nil, psh_cons, Apt_nil, Apt_nilT, Apt_true, Apt_false, Dis_def, runT_val, runT_rd, runT_wr, runT_new, runT_mv, ex, put_some, put_none, ev_t, ev_c, argF_zero, argF_succ, set_g, set_n, cells_v, cells_sl, cells_agg, cells_own, cells_ptr, cells_clo, cells_eptr, cells_mp, putc, exBslice, lfill, exField, exIdxV, exIdxP, exBox, exAlloc, exLoad, exStore, exFieldA, exIdxA, exLen, exPick, exUn, exBeq, exMM, exSeq, seqGo, exExt, binV, intOp, subc, AV.solid, S0, encI, encB, e1, e2, e3, e9, e10, e11, hlt]
    refine hQ _ _ ⟨⟨?_, ?_, ?_, ?_, ?_, g0, g1, by simp; omega⟩, ?_, v, g3, hv, fun j hj => ?_, hva⟩
    · simp [put_some, e1]
    · simp [put_some, e2]
    · simp [put_some, e3]
    · simp [put_some, e9]
    · simp [put_some, e10]
    · simp [put_some, e11]
    · have := hd j hj
      simp; omega
theorem reach_Turn_body {P : Program} {ft fr : FuncId} (p : Pat) (hk : p.kids.length ≤ 100000) (h : ∀ q ∈ p.kids, PureC P ft [encPat q] (encPat (turnP q))) (hr : HRevP P fr) (hr0 : PureC P fr [.sl true []] (.tup [])) :
    AW P (c_reach_Turn ft fr) (RetC [.c 2 (some 4)] (FzK (encPat (turnP p)))) (argF [encPat p]) S0 := by
  obtain ⟨k, s, g, ks⟩ := p
  simp only [Pat.kids] at h hk
  have hcells : encPat (.mk k s g ks) = .agg [encI k, encRs s, encIs g, .sl false (ks.map encPat)] := encPat_eq k s g ks
  simp [AW_seq, AW_reg, AW_regD, AW_block, AW_cond, AW_skip, AW_exit, AW_ret, AW_scp, condR_true, condR_false, AThen_normal, AThen_ret, AThen_exit, ABlock_normal, ABlock_ret, ABlock_exit, AScope_normal, AScope_ret, AScope_exit, RetK_ret, RetK_normal, retAV_one, retAV_two, retAV_three, retAV_nil, RG_nil, RG_op, RG_guard, gdR_tt, gdR_ff, gdR_tf, gdR_ft, gdR_un, RG_call, callQ_clo, contK_ap, opR_some, RD_nil, RD_op0, RD_op1, opD0_some, opD1_some, RD_call, callQD_clo, RD_guard, gdD_tt, gdD_ff, gdD_tf, gdD_ft, gdD_un, psh_nil, psh_cons, Apt_nil, Apt_nilT, Apt_true, Apt_false, Dis_def, runT_val, runT_rd, runT_wr, runT_new, runT_mv, ex, put_some, put_none, ev_t, ev_c, argF_zero, argF_succ, set_g, set_n, cells_v, cells_sl, cells_agg, cells_own, cells_ptr, cells_clo, cells_eptr, cells_mp, putc, exBslice, lfill, exField, exIdxV, exIdxP, exBox, exAlloc, exLoad, exStore, exFieldA, exIdxA, exLen, exPick, exUn, exBeq, exMM, exSeq, seqGo, exExt, binV, intOp, subc, AV.solid, S0, encI, encB, c_reach_Turn, hcells]
  refine tu_loop (p := .mk k s g ks) (b0 := 0) (b1 := 1) (b3 := 3) hk h (by decide) ⟨⟨?_, ?_, ?_, ?_, ?_, ?_, ?_, ?_⟩, ?_, .sl true [], ?_, .inl ⟨rfl, by simp [turnPs]⟩, by simp [AV.ids], rfl⟩ ?_
  · simp [put_some]
  · simp [put_some]
  · simp [put_some]
  · simp [put_some, Pat.kids]
  · simp [put_some, Pat.kids, encI]
  · simp [set_g, hcells, encI]
  · simp [set_g]
  · simp [set_n]
  · simp [put_some, encI]
  · simp [set_g, Pat.kind, Pat.set, Pat.signs, encI]
  · rintro f S ⟨⟨e1, e2, e3, e9, e10, g0, g1, n0⟩, e11, v, g3, hv, hd, hva⟩
    simp only [Pat.kids, Pat.kind, Pat.set, Pat.signs, List.take_length] at *
    obtain ⟨n0a, n0b, n0c⟩ := n0
    rw [hcells] at g0
    have hva2 : v.cells = [v] := AV.cells_atom hva
    have fin : ∀ (g' : Nat → Option Blk) (v : AV) (l : List Pat), Vec g' v 4 (l.map encPat) → Fz g' (.agg [encI k, encRs s, encIs g, v]) (.agg [encI k, encRs s, encIs g, .sl false (l.map encPat)]) := by
      intro g' v l hv
      refine .agg _ _ rfl (fun i h1 h2 => ?_)
      match i, h1 with
      | 0, _ => exact .closed _ (closed_I _)
      | 1, _ => exact .closed _ (closed_Rs _)
      | 2, _ => exact .closed _ (closed_Is _)
      | 3, _ => exact hv.fz closed_Pat
    by_cases hk3 : k = 3
    · have ht : turnP (.mk k s g ks) = .mk k s g (turnPs ks).reverse := by rw [turnP, if_pos hk3]
      rw [ht, encPat_eq]
      have hke : (k == 3) = true := by simp [hk3]
      have post : ∀ (a : AF) (S2 : St) (w : AV), w.atom = true → a 2 = .ptr 1 0 0 → a 3 = .ptr 3 0 0 → S2.g 3 = some (.arr 4 [.agg [encI k, encRs s, encIs g, w]]) → S2.g 1 = some (.arr 4 [.agg [.v (.int .i64 0), .sl true [], .sl true [], .sl true []]]) → Vec0 S2.g w 4 ((turnPs ks).reverse.map encPat) → 1 ∉ w.ids →
          AW P c_tu_end (RetC [RV.c 2 (some 4)] (FzK (.agg [.v (.int .i64 k), encRs s, encIs g, .sl false ((turnPs ks).map encPat).reverse]))) a S2 := by
        intro a S2 w hwa a2 a3 h3 h1 hw hw1
        simp [AW_seq, AW_reg, AW_regD, AW_block, AW_cond, AW_skip, AW_exit, AW_ret, AW_scp, condR_true, condR_false, AThen_normal, AThen_ret, AThen_exit, ABlock_normal, ABlock_ret, ABlock_exit, AScope_normal, AScope_ret, AScope_exit, RetK_ret, RetK_normal, retAV_one, retAV_two, retAV_three, retAV_nil, RG_nil, RG_op, RG_guard, gdR_tt, gdR_ff, gdR_tf, gdR_ft, gdR_un, RG_call, callQ_clo, contK_ap, opR_some, RD_nil, RD_op0, RD_op1, opD0_some, opD1_some, RD_call, callQD_clo, RD_guard, gdD_tt, gdD_ff, gdD_tf, gdD_ft, gdD_un, psh_nil, psh_cons, Apt_nil, Apt_nilT, Apt_true, Apt_false, Dis_def, runT_val, runT_rd, runT_wr, runT_new, runT_mv, ex, put_some, put_none, ev_t, ev_c, argF_zero, argF_succ, set_g, set_n, cells_v, cells_sl, cells_agg, cells_own, cells_ptr, cells_clo, cells_eptr, cells_mp, putc, exBslice, lfill, exField, exIdxV, exIdxP, exBox, exAlloc, exLoad, exStore, exFieldA, exIdxA, exLen, exPick, exUn, exBeq, exMM, exSeq, seqGo, exExt, binV, intOp, subc, AV.solid, S0, encI, encB, a2, a3, h3, h1, c_tu_end]
        refine ⟨[.agg [encI k, encRs s, encIs g, w]], by simp [evC, RV.ev, ldC, put_some, a2, set_g, subc, AV.cells, encI], ?_⟩
        simp [AW_seq, AW_reg, AW_regD, AW_block, AW_cond, AW_skip, AW_exit, AW_ret, AW_scp, condR_true, condR_false, AThen_normal, AThen_ret, AThen_exit, ABlock_normal, ABlock_ret, ABlock_exit, AScope_normal, AScope_ret, AScope_exit, RetK_ret, RetK_normal, retAV_one, retAV_two, retAV_three, retAV_nil, RG_nil, RG_op, RG_guard, gdR_tt, gdR_ff, gdR_tf, gdR_ft, gdR_un, RG_call, callQ_clo, contK_ap, opR_some, RD_nil, RD_op0, RD_op1, opD0_some, opD1_some, RD_call, callQD_clo, RD_guard, gdD_tt, gdD_ff, gdD_tf, gdD_ft, gdD_un, psh_nil, psh_cons, Apt_nil, Apt_nilT, Apt_true, Apt_false, Dis_def, runT_val, runT_rd, runT_wr, runT_new, runT_mv, ex, put_some, put_none, ev_t, ev_c, argF_zero, argF_succ, set_g, set_n, cells_v, cells_sl, cells_agg, cells_own, cells_ptr, cells_clo, cells_eptr, cells_mp, putc, exBslice, lfill, exField, exIdxV, exIdxP, exBox, exAlloc, exLoad, exStore, exFieldA, exIdxA, exLen, exPick, exUn, exBeq, exMM, exSeq, seqGo, exExt, binV, intOp, subc, AV.solid, S0, encI, encB, packC]
        have := fin _ _ _ (hw.vec.frame (g' := (({ n := S2.n + 2, g := S2.g } : St).set 1 (some (Blk.arr 4 [AV.agg [AV.v (Value.int IntKind.i64 k), encRs s, encIs g, w]]))).g) (fun i hi => by
          have : ¬ i = 1 := fun e => hw1 (e ▸ hi)
          simp [set_g, this]))
        rw [List.map_reverse] at this
        exact this
      simp [AW_seq, AW_reg, AW_regD, AW_block, AW_cond, AW_skip, AW_exit, AW_ret, AW_scp, condR_true, condR_false, AThen_normal, AThen_ret, AThen_exit, ABlock_normal, ABlock_ret, ABlock_exit, AScope_normal, AScope_ret, AScope_exit, RetK_ret, RetK_normal, retAV_one, retAV_two, retAV_three, retAV_nil, RG_nil, RG_op, RG_guard, gdR_tt, gdR_ff, gdR_tf, gdR_ft, gdR_un, RG_call, callQ_clo, contK_ap, opR_some, RD_nil, RD_op0, RD_op1, opD0_some, opD1_some, RD_call, callQD_clo, RD_guard, gdD_tt, gdD_ff, gdD_tf, gdD_ft, gdD_un, psh_nil, psh_cons, Apt_nil, Apt_nilT, Apt_true, Apt_false, Dis_def, runT_val, runT_rd, runT_wr, runT_new, runT_mv, ex, put_some, put_none, ev_t, ev_c, argF_zero, argF_succ, set_g, set_n, cells_v, cells_sl, cells_agg, cells_own, cells_ptr, cells_clo, cells_eptr, cells_mp, putc, exBslice, lfill, exField, exIdxV, exIdxP, exBox, exAlloc, exLoad, exStore, exFieldA, exIdxA, exLen, exPick, exUn, exBeq, exMM, exSeq, seqGo, exExt, binV, intOp, subc, AV.solid, S0, encI, encB, e1, e2, e3, g0, g1, g3, hke]
      rcases hv with ⟨rfl, hnil⟩ | ⟨id, rfl, hid⟩
      · have hn : turnPs ks = [] := by simpa using hnil
        refine CallR.pure hr0 (cl_cons (.sl _ _ (by simp)) cl_nil) (.tup _ (by simp)) ?_
        simp [AW_seq, AW_reg, AW_regD, AW_block, AW_cond, AW_skip, AW_exit, AW_ret, AW_scp, condR_true, condR_false, AThen_normal, AThen_ret, AThen_exit, ABlock_normal, ABlock_ret, ABlock_exit, AScope_normal, AScope_ret, AScope_exit, RetK_ret, RetK_normal, retAV_one, retAV_two, retAV_three, retAV_nil, RG_nil, RG_op, RG_guard, gdR_tt, gdR_ff, gdR_tf, gdR_ft, gdR_un, RG_call, callQ_clo, contK_ap, opR_some, RD_nil, RD_op0, RD_op1, opD0_some, opD1_some, RD_call, callQD_clo, RD_guard, gdD_tt, gdD_ff, gdD_tf, gdD_ft, gdD_un, psh_nil, psh_cons, Apt_nil, Apt_nilT, Apt_true, Apt_false, Dis_def, runT_val, runT_rd, runT_wr, runT_new, runT_mv, ex, put_some, put_none, ev_t, ev_c, argF_zero, argF_succ, set_g, set_n, cells_v, cells_sl, cells_agg, cells_own, cells_ptr, cells_clo, cells_eptr, cells_mp, putc, exBslice, lfill, exField, exIdxV, exIdxP, exBox, exAlloc, exLoad, exStore, exFieldA, exIdxA, exLen, exPick, exUn, exBeq, exMM, exSeq, seqGo, exExt, binV, intOp, subc, AV.solid, S0, encI, encB]
        refine post _ _ (.sl true []) rfl ?_ ?_ ?_ ?_ ?_ ?_
        · simp [put_some, e2]
        · simp [put_some, e3]
        · simpa using g3
        · simpa using g1
        · exact .inl ⟨rfl, by simp [hn]⟩
        · simp [AV.ids]
      · obtain ⟨d0, d1, d3, d4⟩ := hd id (by simp [AV.ids])
        have hlen : ((turnPs ks).map encPat).length = (turnPs ks).length := by simp
        rw [hlen]
        refine hr _ id (turnPs ks) _ (by simpa using hid) (by rw [turnPs_len]; omega) (fun n hn => ?_)
        simp [AW_seq, AW_reg, AW_regD, AW_block, AW_cond, AW_skip, AW_exit, AW_ret, AW_scp, condR_true, condR_false, AThen_normal, AThen_ret, AThen_exit, ABlock_normal, ABlock_ret, ABlock_exit, AScope_normal, AScope_ret, AScope_exit, RetK_ret, RetK_normal, retAV_one, retAV_two, retAV_three, retAV_nil, RG_nil, RG_op, RG_guard, gdR_tt, gdR_ff, gdR_tf, gdR_ft, gdR_un, RG_call, callQ_clo, contK_ap, opR_some, RD_nil, RD_op0, RD_op1, opD0_some, opD1_some, RD_call, callQD_clo, RD_guard, gdD_tt, gdD_ff, gdD_tf, gdD_ft, gdD_un, psh_nil, psh_cons, Apt_nil, Apt_nilT, Apt_true, Apt_false, Dis_def, runT_val, runT_rd, runT_wr, runT_new, runT_mv, ex, put_some, put_none, ev_t, ev_c, argF_zero, argF_succ, set_g, set_n, cells_v, cells_sl, cells_agg, cells_own, cells_ptr, cells_clo, cells_eptr, cells_mp, putc, exBslice, lfill, exField, exIdxV, exIdxP, exBox, exAlloc, exLoad, exStore, exFieldA, exIdxA, exLen, exPick, exUn, exBeq, exMM, exSeq, seqGo, exExt, binV, intOp, subc, AV.solid, S0, encI, encB]
        refine post _ _ (.own id 0 (turnPs ks).length) rfl ?_ ?_ ?_ ?_ ?_ ?_
        · simp [put_some, e2]
        · simp [put_some, e3]
        · have : ¬ 3 = id := fun e => d3 e.symm
          simpa [set_g, this] using g3
        · have : ¬ 1 = id := fun e => d1 e.symm
          simpa [set_g, this] using g1
        · exact .inr ⟨id, by simp, by simp [set_g]⟩
        · simp only [AV.ids, List.mem_cons, List.not_mem_nil, or_false]; omega
    · have ht : turnP (.mk k s g ks) = .mk k s g (turnPs ks) := by rw [turnP, if_neg hk3]
      rw [ht, encPat_eq]
      have hke : (k == 3) = false := by simp [hk3]
      simp [AW_seq, AW_reg, AW_regD, AW_block, AW_cond, AW_skip, AW_exit, AW_ret, AW_scp, condR_true, condR_false, AThen_normal, AThen_ret, AThen_exit, ABlock_normal, ABlock_ret, ABlock_exit, AScope_normal, AScope_ret, AScope_exit, RetK_ret, RetK_normal, retAV_one, retAV_two, retAV_three, retAV_nil, RG_nil, RG_op, RG_guard, gdR_tt, gdR_ff, gdR_tf, gdR_ft, gdR_un, RG_call, callQ_clo, contK_ap, opR_some, RD_nil, RD_op0, RD_op1, opD0_some, opD1_some, RD_call, callQD_clo, RD_guard, gdD_tt, gdD_ff, gdD_tf, gdD_ft, gdD_un, psh_nil, psh_cons, Apt_nil, Apt_nilT, Apt_true, Apt_false, Dis_def, runT_val, runT_rd, runT_wr, runT_new, runT_mv, ex, put_some, put_none, ev_t, ev_c, argF_zero, argF_succ, set_g, set_n, cells_v, cells_sl, cells_agg, cells_own, cells_ptr, cells_clo, cells_eptr, cells_mp, putc, exBslice, lfill, exField, exIdxV, exIdxP, exBox, exAlloc, exLoad, exStore, exFieldA, exIdxA, exLen, exPick, exUn, exBeq, exMM, exSeq, seqGo, exExt, binV, intOp, subc, AV.solid, S0, encI, encB, e1, e2, e3, g0, g1, g3, hke, c_tu_end]
      refine ⟨[.agg [encI k, encRs s, encIs g, v]], by simp [evC, RV.ev, ldC, put_some, e2, set_g, subc, AV.cells, encI], ?_⟩
      simp [AW_seq, AW_reg, AW_regD, AW_block, AW_cond, AW_skip, AW_exit, AW_ret, AW_scp, condR_true, condR_false, AThen_normal, AThen_ret, AThen_exit, ABlock_normal, ABlock_ret, ABlock_exit, AScope_normal, AScope_ret, AScope_exit, RetK_ret, RetK_normal, retAV_one, retAV_two, retAV_three, retAV_nil, RG_nil, RG_op, RG_guard, gdR_tt, gdR_ff, gdR_tf, gdR_ft, gdR_un, RG_call, callQ_clo, contK_ap, opR_some, RD_nil, RD_op0, RD_op1, opD0_some, opD1_some, RD_call, callQD_clo, RD_guard, gdD_tt, gdD_ff, gdD_tf, gdD_ft, gdD_un, psh_nil, psh_cons, Apt_nil, Apt_nilT, Apt_true, Apt_false, Dis_def, runT_val, runT_rd, runT_wr, runT_new, runT_mv, ex, put_some, put_none, ev_t, ev_c, argF_zero, argF_succ, set_g, set_n, cells_v, cells_sl, cells_agg, cells_own, cells_ptr, cells_clo, cells_eptr, cells_mp, putc, exBslice, lfill, exField, exIdxV, exIdxP, exBox, exAlloc, exLoad, exStore, exFieldA, exIdxA, exLen, exPick, exUn, exBeq, exMM, exSeq, seqGo, exExt, binV, intOp, subc, AV.solid, S0, encI, encB, packC]
      exact fin _ _ _ (hv.vec.frame (fun i hi => by
        have : ¬ i = 1 := (hd i hi).2.1
        simp [set_g, this]))
mutual
theorem turn_ok {P : Program} (hm : P.follows .mixedOrders = true) {ft fr : FuncId} (hI : IsC P ft (c_reach_Turn ft fr) [.c 2 (some 4)] 1) (hr : HRevP P fr) (hr0 : PureC P fr [.sl true []] (.tup [])) : ∀ p : Pat, PatS p → PureC P ft [encPat p] (encPat (turnP p))
  | .mk k s g ks, h => by
    simp only [PatS] at h
    exact hI.pure hm rfl (reach_Turn_body _ h.2.1 (turns_ok hm hI hr hr0 ks h.2.2) hr hr0)
theorem turns_ok {P : Program} (hm : P.follows .mixedOrders = true) {ft fr : FuncId} (hI : IsC P ft (c_reach_Turn ft fr) [.c 2 (some 4)] 1) (hr : HRevP P fr) (hr0 : PureC P fr [.sl true []] (.tup [])) : ∀ ks : List Pat, PatsS ks → ∀ q ∈ ks, PureC P ft [encPat q] (encPat (turnP q))
  | [], _, q, hq => by simp at hq
  | p :: ps, h, q, hq => by
    simp only [PatsS] at h
    rcases List.mem_cons.mp hq with e | hq
    · rw [e]; exact turn_ok hm hI hr hr0 p h.1
    · exact turns_ok hm hI hr hr0 ps h.2 q hq
end
end Go.Rf


/- Own work: how much a book is. -/
set_option linter.unusedVariables false
set_option linter.unusedSimpArgs false
namespace Go.Rf
open Go.RowKit

def c_wp_loop (f_caesuraref08_Weight : FuncId) : AC :=
  (.block 0 (.loop (.seq (.seq (.reg none [
     ⟨(some 17), .mv (.t 6), none, none⟩,
     ⟨(some 18), .fieldA 3 (.t 2), none, none⟩,
     ⟨(some 19), .load none (.t 18), none, none⟩,
     ⟨(some 20), .len (.t 19), none, none⟩,
     ⟨(some 21), .bin .lss (.t 17) (.t 20), none, none⟩,
     ⟨(some 22), .mv (.t 21), none, none⟩,
     ⟨(some 23), .mv (.t 5), (some (22, true)), none⟩,
     ⟨(some 24), .bin .leq (.t 23) (.c (.v (.int .i64 2000))), (some (22, true)), none⟩,
     ⟨(some 25), .pick (.t 22) (.t 24) (.c (.v (.bool false))), none, none⟩])
    (.cond (.t 25) .skip (.exit 0)))
    (.seq (.block 1 (.reg none [
      ⟨(some 28), .mv (.t 5), none, none⟩,
      ⟨(some 29), .fieldA 3 (.t 2), none, none⟩,
      ⟨(some 30), .load none (.t 29), none, none⟩,
      ⟨(some 31), .mv (.t 6), none, none⟩,
      ⟨(some 32), .idxA 4 (.t 30) (.t 31), none, none⟩,
      ⟨(some 33), .load (some 4) (.t 32), none, none⟩,
      ⟨(some 34), .mv (.t 1), none, none⟩,
      ⟨(some 35), .bin .add (.t 34) (.c (.v (.int .i64 1))), none, none⟩,
      ⟨(some 36), .mv (.c .junk), none, (some ((.c (.clo f_caesuraref08_Weight [] [])), [(.t 33), (.t 35)]))⟩,
      ⟨(some 37), .bin .add (.t 28) (.t 36), none, none⟩,
      ⟨(some 5), .mv (.t 37), none, none⟩]))
    (.reg none [
     ⟨(some 26), .mv (.t 6), none, none⟩,
     ⟨(some 27), .bin .add (.t 26) (.c (.v (.int .i64 1))), none, none⟩,
     ⟨(some 6), .mv (.t 27), none, none⟩])))))
def c_caesuraref08_Weight (f_caesuraref08_Weight : FuncId) : AC :=
  (.seq (.reg none [
   ⟨(some 2), .box 4 (.t 0), none, none⟩,
   ⟨(some 4), .mv (.c (.v (.int .i64 0))), none, none⟩])
  (.seq (.reg none [
   ⟨(some 7), .fieldA 1 (.t 2), none, none⟩,
   ⟨(some 8), .load none (.t 7), none, none⟩,
   ⟨(some 9), .len (.t 8), none, none⟩,
   ⟨(some 10), .bin .add (.c (.v (.int .i64 1))) (.t 9), none, none⟩,
   ⟨(some 11), .fieldA 2 (.t 2), none, none⟩,
   ⟨(some 12), .load none (.t 11), none, none⟩,
   ⟨(some 13), .len (.t 12), none, none⟩,
   ⟨(some 14), .bin .add (.t 10) (.t 13), none, none⟩,
   ⟨(some 5), .mv (.t 14), none, none⟩])
  (.seq (.seq (.reg none [
   ⟨(some 15), .mv (.t 1), none, none⟩,
   ⟨(some 16), .bin .gtr (.t 15) (.c (.v (.int .i64 100))), none, none⟩])
  (.cond (.t 16) (.seq (.reg none [
    ⟨(some 4), .mv (.c (.v (.int .i64 3000))), none, none⟩])
   .ret) .skip))
  (.seq (.seq (.reg none [
   ⟨(some 6), .mv (.c (.v (.int .i64 0))), none, none⟩])
  (c_wp_loop f_caesuraref08_Weight))
  (.seq (.reg none [
   ⟨(some 38), .mv (.t 5), none, none⟩,
   ⟨(some 4), .mv (.t 38), none, none⟩])
  .ret)))))
/-! ### sums that end when they are more than most -/
def sumW (most : Int) : Int → List Int → Int
  | s, [] => s
  | s, w :: ws => if s ≤ most then sumW most (s + w) ws else s
theorem sumW_bd {most B M : Int} (hM : most + B ≤ M) : ∀ {ws : List Int} {s : Int}, (∀ w ∈ ws, 0 ≤ w ∧ w ≤ B) → s ≤ M → s ≤ sumW most s ws ∧ sumW most s ws ≤ M
  | [], s, _, hs => ⟨Int.le_refl _, hs⟩
  | w :: ws, s, h, hs => by
    have hw := h w (by simp)
    simp only [sumW]
    split
    · have := sumW_bd hM (ws := ws) (s := s + w) (fun x hx => h x (by simp [hx])) (by omega)
      omega
    · exact ⟨Int.le_refl _, hs⟩
theorem sumW_all {most : Int} : ∀ {ws : List Int} {s : Int}, (∀ w ∈ ws, 0 ≤ w) → sumW most s ws ≤ most → s ≤ most ∧ (∀ w ∈ ws, w ≤ most - s) ∧ s + ws.sum ≤ most
  | [], s, _, h => by simp only [sumW] at h; simp; exact h
  | w :: ws, s, h0, h => by
    simp only [sumW] at h
    have hw := h0 w (by simp)
    split at h
    · rename_i hs
      obtain ⟨h1, h2, h3⟩ := sumW_all (ws := ws) (s := s + w) (fun x hx => h0 x (by simp [hx])) h
      refine ⟨hs, fun x hx => ?_, by simp; omega⟩
      rcases List.mem_cons.mp hx with rfl | hx
      · omega
      · have := h2 x hx; omega
    · omega
theorem sumW_drop {most s : Int} {ws : List Int} {i : Nat} (h : i < ws.length) (hs : s ≤ most) : sumW most s (ws.drop i) = sumW most (s + ws[i]) (ws.drop (i + 1)) := by
  rw [List.drop_eq_getElem_cons h, sumW, if_pos hs]
theorem sumW_stop {most s : Int} {ws : List Int} (hs : ¬ s ≤ most) : sumW most s ws = s := by cases ws with
  | nil => rfl
  | cons w ws => rw [sumW, if_neg hs]
theorem sum_len : ∀ (ws : List Int), (∀ w ∈ ws, 1 ≤ w) → (ws.length : Int) ≤ ws.sum
  | [], _ => by simp
  | w :: ws, h => by have := sum_len ws (fun x hx => h x (by simp [hx])); have := h w (by simp); simp; omega
/-! ### forms -/
mutual
def wgtP : Pat → Int → Int
  | .mk _ s g ks, d => if 100 < d then 3000 else wgtPs ks (d + 1) (1 + s.length + g.length)
def wgtPs : List Pat → Int → Int → Int
  | [], _, s => s
  | p :: ps, d, s => if s ≤ 2000 then wgtPs ps d (s + wgtP p d) else s
end
theorem wgtPs_eq : ∀ (ks : List Pat) (d s : Int), wgtPs ks d s = sumW 2000 s (ks.map (wgtP · d))
  | [], _, _ => by simp [wgtPs, sumW]
  | p :: ps, d, s => by simp [wgtPs, sumW, wgtPs_eq ps]
mutual
def goodP : Pat → Prop
  | .mk _ s g ks => Len s ∧ Len g ∧ Len ks ∧ goodPs ks
def goodPs : List Pat → Prop
  | [] => True
  | p :: ps => goodP p ∧ goodPs ps
end
mutual
theorem wgtP_bd : ∀ (p : Pat) (d : Int), goodP p → d ≤ 101 → 1 ≤ wgtP p d ∧ wgtP p d ≤ 400000000000000 + 3000 * (101 - d)
  | .mk k s g ks, d, h, hd => by
    simp only [goodP, Len] at h
    obtain ⟨h1, h2, h3, h4⟩ := h
    rw [wgtP]
    split
    · omega
    · have := wgtPs_bd ks (d + 1) h4 (by omega)
      rw [wgtPs_eq]
      have := sumW_bd (most := 2000) (B := 400000000000000 + 3000 * (101 - (d + 1))) (M := 400000000000000 + 3000 * (101 - d)) (by omega) (ws := ks.map (wgtP · (d + 1))) (s := 1 + s.length + g.length) (fun w hw => by
        obtain ⟨q, hq, rfl⟩ := List.mem_map.mp hw
        have := this q hq; omega) (by omega)
      omega
theorem wgtPs_bd : ∀ (ks : List Pat) (d : Int), goodPs ks → d ≤ 101 → ∀ q ∈ ks, 1 ≤ wgtP q d ∧ wgtP q d ≤ 400000000000000 + 3000 * (101 - d)
  | [], _, _, _, q, hq => by simp at hq
  | p :: ps, d, h, hd, q, hq => by
    simp only [goodPs] at h
    rcases List.mem_cons.mp hq with e | hq
    · rw [e]; exact wgtP_bd p d h.1 hd
    · exact wgtPs_bd ps d h.2 hd q hq
end
/- What a weight that is no more than 2000 tells. -/
mutual
theorem wgtP_small : ∀ (p : Pat) (d : Int), goodP p → d ≤ 101 → wgtP p d ≤ 2000 → PatS p ∧ p.set.length ≤ 2000 ∧ p.signs.length ≤ 2000 ∧ p.kids.length ≤ 2000
  | .mk k s g ks, d, h, hd, hw => by
    simp only [goodP] at h
    obtain ⟨h1, h2, h3, h4⟩ := h
    rw [wgtP] at hw
    split at hw
    · omega
    · rename_i hd2
      rw [wgtPs_eq] at hw
      have hb := wgtPs_bd ks (d + 1) h4 (by omega)
      have hpos : ∀ w ∈ ks.map (wgtP · (d + 1)), 1 ≤ w := fun w hw => by
        obtain ⟨q, hq, rfl⟩ := List.mem_map.mp hw
        exact (hb q hq).1
      obtain ⟨a1, a2, a3⟩ := sumW_all (fun w hw => by have := hpos w hw; omega) hw
      have a4 := sum_len _ hpos
      rw [List.length_map] at a4
      simp only [PatS, Pat.set, Pat.signs, Pat.kids]
      refine ⟨⟨by omega, by omega, PatsS_of fun q hq => ?_⟩, by omega, by omega, by omega⟩
      exact wgtPs_small ks (d + 1) h4 (by omega) (fun q hq => by have := a2 _ (List.mem_map_of_mem hq); omega) q hq
theorem wgtPs_small : ∀ (ks : List Pat) (d : Int), goodPs ks → d ≤ 101 → (∀ q ∈ ks, wgtP q d ≤ 2000) → ∀ q ∈ ks, PatS q
  | [], _, _, _, _, q, hq => by simp at hq
  | p :: ps, d, h, hd, hw, q, hq => by
    simp only [goodPs] at h
    rcases List.mem_cons.mp hq with e | hq
    · rw [e]; exact (wgtP_small p d h.1 hd (hw p (by simp))).1
    · exact wgtPs_small ps d h.2 hd (fun q hq => hw q (by simp [hq])) q hq
end
def WpI (p : Pat) (d : Int) (T : Int) (i : Nat) (f : AF) (S : St) : Prop :=
  f 1 = encI d ∧ f 2 = .ptr 0 0 0 ∧ f 6 = encI i ∧ S.g 0 = some (.arr 4 [encPat p]) ∧ ∃ s : Int, f 5 = encI s ∧ sumW 2000 s ((p.kids.map (wgtP · (d + 1))).drop i) = T ∧ 0 ≤ s ∧ s ≤ 500000000000000
theorem wp_loop {P : Program} {fw : FuncId} {p : Pat} {d T : Int} (hk : Len p.kids) (hd : -1 ≤ d ∧ d ≤ 100) (h : ∀ q ∈ p.kids, PureC P fw [encPat q, encI (d + 1)] (encI (wgtP q (d + 1)))) (hb : ∀ q ∈ p.kids, 1 ≤ wgtP q (d + 1) ∧ wgtP q (d + 1) ≤ 410000000000000)
    {f : AF} {S : St} {Q : Exit → AF → St → Prop} (h0 : WpI p d T 0 f S) (hQ : ∀ f' S', f' 5 = encI T → Q .normal f' S') : AW P (c_wp_loop fw) Q f S := by
  unfold Len at hk
  obtain ⟨k, ps, pg, ks⟩ := p
  simp only [Pat.kids] at *
  have hcells : encPat (.mk k ps pg ks) = .agg [encI k, encRs ps, encIs pg, .sl false (ks.map encPat)] := encPat_eq k ps pg ks
  simp [AW_seq, AW_reg, AW_regD, AW_block, AW_cond, AW_skip, AW_exit, AW_ret, AW_scp, condR_true, condR_false, AThen_normal, AThen_ret, AThen_exit, ABlock_normal, ABlock_ret, ABlock_exit, AScope_normal, AScope_ret, AScope_exit, RetK_ret, RetK_normal, retAV_one, retAV_two, retAV_three, retAV_nil, RG_nil, RG_op, RG_guard, gdR_tt, gdR_ff, gdR_tf, gdR_ft, gdR_un, RG_call, callQ_clo, contK_ap, opR_some, RD_nil, RD_op0, RD_op1, opD0_some, opD1_some, RD_call, callQD_clo, RD_guard, gdD_tt, gdD_ff, gdD_tf, gdD_ft, gdD_un, psh_nil, psh_cons, Apt_nil, Apt_nilT, Apt_true, Apt_false, Dis_def, runT_val, runT_rd, runT_wr, runT_new, runT_mv, ex, put_some, put_none, ev_t, ev_c, argF_zero, argF_succ, set_g, set_n, cells_v, cells_sl, cells_agg, cells_own, cells_ptr, cells_clo, cells_eptr, cells_mp, putc, exBslice, lfill, exField, exIdxV, exIdxP, exBox, exAlloc, exLoad, exStore, exFieldA, exIdxA, exLen, exPick, exUn, exBeq, exMM, exSeq, seqGo, exExt, binV, intOp, subc, AV.solid, S0, encI, encB, c_wp_loop]
  refine AW_for ks.length (WpI (.mk k ps pg ks) d T) h0 ?_
  rintro i f S hi ⟨e1, e2, e6, g0, s, e5, hT, hs0, hs1⟩
  rw [hcells] at g0
  simp only [Pat.kids] at hT
  by_cases hlt : i < ks.length
  · have hg : ks[i]? = some ks[i] := List.getElem?_eq_getElem hlt
    have hq := h _ (List.getElem_mem hlt)
    have hbq := hb _ (List.getElem_mem hlt)
    have hc := closed_Pat ks[i]
    obtain ⟨x1, x2, x3, x4, hx⟩ : ∃ x1 x2 x3 x4 : AV, encPat ks[i] = .agg [x1, x2, x3, x4] := by
      obtain ⟨k, s, g, ks⟩ := ks[i]; rw [encPat_eq]; exact ⟨_, _, _, _, rfl⟩
    rw [hx] at hq hc
    by_cases hle : s ≤ 2000
    · rw [sumW_drop (by simpa using hlt) hle] at hT
      simp only [List.getElem_map] at hT
      generalize wgtP ks[i] (d + 1) = w at *
      simp only [encI] at hq
      have hw := wrap_in (d + 1) (by omega)
      simp [AW_seq, AW_reg, AW_regD, AW_block, AW_cond, AW_skip, AW_exit, AW_ret, AW_scp, condR_true, condR_false, AThen_normal, AThen_ret, AThen_exit, ABlock_normal, ABlock_ret, ABlock_exit, AScope_normal, AScope_ret, AScope_exit, RetK_ret, RetK_normal, retAV_one, retAV_two, retAV_three, retAV_nil, RG_nil, RG_op, RG_guard, gdR_tt, gdR_ff, gdR_tf, gdR_ft, gdR_un, RG_call, callQ_clo, contK_ap, opR_some, RD_nil, RD_op0, RD_op1, opD0_some, opD1_some, RD_call, callQD_clo, RD_guard, gdD_tt, gdD_ff, gdD_tf, gdD_ft, gdD_un, psh_nil, psh_cons, Apt_nil, Apt_nilT, Apt_true, Apt_false, Dis_def, runT_val, runT_rd, runT_wr, runT_new, runT_mv, ex, put_some, put_none, ev_t, ev_c, argF_zero, argF_succ, set_g, set_n, cells_v, cells_sl, cells_agg, cells_own, cells_ptr, cells_clo, cells_eptr, cells_mp, putc, exBslice, lfill, exField, exIdxV, exIdxP, exBox, exAlloc, exLoad, exStore, exFieldA, exIdxA, exLen, exPick, exUn, exBeq, exMM, exSeq, seqGo, exExt, binV, intOp, subc, AV.solid, S0, encI, encB, e1, e2, e5, e6, g0, hlt, hle, hg, hx, hw]
      refine CallR.pure hq (cl_cons hc (cl_cons (closed_I _) cl_nil)) (closed_I _) ?_
      simp [AW_seq, AW_reg, AW_regD, AW_block, AW_cond, AW_skip, AW_exit, AW_ret, AW_scp, condR_true, condR_false, AThen_normal, AThen_ret, AThen_exit, ABlock_normal, ABlock_ret, ABlock_exit, AScope_normal, AScope_ret, AScope_exit, RetK_ret, RetK_normal, retAV_one, retAV_two, retAV_three, retAV_nil, RG_nil, RG_op, RG_guard, gdR_tt, gdR_ff, gdR_tf, gdR_ft, gdR_un, RG_call, callQ_clo, contK_ap, opR_some, RD_nil, RD_op0, RD_op1, opD0_some, opD1_some, RD_call, callQD_clo, RD_guard, gdD_tt, gdD_ff, gdD_tf, gdD_ft, gdD_un, psh_nil, psh_cons, Apt_nil, Apt_nilT, Apt_true, Apt_false, Dis_def, runT_val, runT_rd, runT_wr, runT_new, runT_mv, ex, put_some, put_none, ev_t, ev_c, argF_zero, argF_succ, set_g, set_n, cells_v, cells_sl, cells_agg, cells_own, cells_ptr, cells_clo, cells_eptr, cells_mp, putc, exBslice, lfill, exField, exIdxV, exIdxP, exBox, exAlloc, exLoad, exStore, exFieldA, exIdxA, exLen, exPick, exUn, exBeq, exMM, exSeq, seqGo, exExt, binV, intOp, subc, AV.solid, S0, encI, encB, e6]
      rw [wrap_in _ (by omega), wrap_in _ (by omega)]
      refine ⟨hlt, ?_, ?_, ?_, ?_, s + w, ?_, hT, by omega, by omega⟩
      · simp [put_some, e1, encI]
      · simp [put_some, e2]
      · simp [put_some, encI]
      · simp [g0, hcells]
      · simp [put_some, encI]
    · rw [sumW_stop hle] at hT
      simp [AW_seq, AW_reg, AW_regD, AW_block, AW_cond, AW_skip, AW_exit, AW_ret, AW_scp, condR_true, condR_false, AThen_normal, AThen_ret, AThen_exit, ABlock_normal, ABlock_ret, ABlock_exit, AScope_normal, AScope_ret, AScope_exit, RetK_ret, RetK_normal, retAV_one, retAV_two, retAV_three, retAV_nil, RG_nil, RG_op, RG_guard, gdR_tt, gdR_ff, gdR_tf, gdR_ft, gdR_un, RG_call, callQ_clo, contK_ap, opR_some, RD_nil, RD_op0, RD_op1, opD0_some, opD1_some, RD_call, callQD_clo, RD_guard, gdD_tt, gdD_ff, gdD_tf, gdD_ft, gdD_un, psh_nil, psh_cons, Apt_nil, Apt_nilT, Apt_true, Apt_false, Dis_def, runT_val, runT_rd, runT_wr, runT_new, runT_mv, ex, put_some, put_none, ev_t, ev_c, argF_zero, argF_succ, set_g, set_n, cells_v, cells_sl, cells_agg, cells_own, cells_ptr, cells_clo, cells_eptr, cells_mp, putc, exBslice, lfill, exField, exIdxV, exIdxP, exBox, exAlloc, exLoad, exStore, exFieldA, exIdxA, exLen, exPick, exUn, exBeq, exMM, exSeq, seqGo, exExt, binV, intOp, subc, AV.solid, S0, encI, encB, e1, e2, e5, e6, g0, hlt, hle]
      exact hQ _ _ (by simp [put_some, e5, hT])
  · rw [List.drop_eq_nil_of_le (by simp; omega), sumW] at hT
    simp [AW_seq, AW_reg, AW_regD, AW_block, AW_cond, AW_skip, AW_exit, AW_ret, AW_scp, condR_true, condR_false, AThen_normal, AThen_ret, AThen_exit, ABlock_normal, ABlock_ret, ABlock_exit, AScope_normal, AScope_ret, AScope_exit, RetK_ret, RetK_normal, retAV_one, retAV_two, retAV_three, retAV_nil, RG_nil, RG_op, RG_guard, gdR_tt, gdR_ff, gdR_tf, gdR_ft, gdR_un, RG_call, callQ_clo, contK_ap, opR_some, RD_nil, RD_op0, RD_op1, opD0_some, opD1_some, RD_call, callQD_clo, RD_guard, gdD_tt, gdD_ff, gdD_tf, gdD_ft, gdD_un, psh_nil, psh_cons, Apt_nil, Apt_nilT, Apt_true, Apt_false, Dis_def, runT_val, runT_rd, runT_wr, runT_new, runT_mv, ex, put_some, put_none, ev_t, ev_c, argF_zero, argF_succ, set_g, set_n, cells_v, cells_sl, cells_agg, cells_own, cells_ptr, cells_clo, cells_eptr, cells_mp, putc, exBslice, lfill, exField, exIdxV, exIdxP, exBox, exAlloc, exLoad, exStore, exFieldA, exIdxA, exLen, exPick, exUn, exBeq, exMM, exSeq, seqGo, exExt, binV, intOp, subc, AV.solid, S0, encI, encB, e1, e2, e5, e6, g0, hlt]
    exact hQ _ _ (by simp [put_some, e5, hT])
theorem Weight08_body {P : Program} {fw : FuncId} (p : Pat) (d : Int) (hg : goodP p) (hd : 0 ≤ d ∧ d ≤ 101) (h : d ≤ 100 → ∀ q ∈ p.kids, PureC P fw [encPat q, encI (d + 1)] (encI (wgtP q (d + 1)))) :
    AW P (c_caesuraref08_Weight fw) (RetK [4] (FzK (encI (wgtP p d)))) (argF [encPat p, encI d]) S0 := by
  obtain ⟨k, s, g, ks⟩ := p
  have hcells : encPat (.mk k s g ks) = .agg [encI k, encRs s, encIs g, .sl false (ks.map encPat)] := encPat_eq k s g ks
  have hb := fun (h1 : d ≤ 100) => wgtPs_bd ks (d + 1) (by simp only [goodP] at hg; exact hg.2.2.2) (by omega)
  simp only [goodP, Len] at hg
  obtain ⟨g1, g2, g3, g4⟩ := hg
  rw [wgtP]
  have hw1 := wrap_in (1 + (s.length : Int)) (by omega)
  have hw2 := wrap_in (1 + (s.length : Int) + g.length) (by omega)
  by_cases hd1 : 100 < d
  · rw [if_pos hd1]
    simp [AW_seq, AW_reg, AW_regD, AW_block, AW_cond, AW_skip, AW_exit, AW_ret, AW_scp, condR_true, condR_false, AThen_normal, AThen_ret, AThen_exit, ABlock_normal, ABlock_ret, ABlock_exit, AScope_normal, AScope_ret, AScope_exit, RetK_ret, RetK_normal, retAV_one, retAV_two, retAV_three, retAV_nil, RG_nil, RG_op, RG_guard, gdR_tt, gdR_ff, gdR_tf, gdR_ft, gdR_un, RG_call, callQ_clo, contK_ap, opR_some, RD_nil, RD_op0, RD_op1, opD0_some, opD1_some, RD_call, callQD_clo, RD_guard, gdD_tt, gdD_ff, gdD_tf, gdD_ft, gdD_un, psh_nil, psh_cons, Apt_nil, Apt_nilT, Apt_true, Apt_false, Dis_def, runT_val, runT_rd, runT_wr, runT_new, runT_mv, ex, put_some, put_none, ev_t, ev_c, argF_zero, argF_succ, set_g, set_n, cells_v, cells_sl, cells_agg, cells_own, cells_ptr, cells_clo, cells_eptr, cells_mp, putc, exBslice, lfill, exField, exIdxV, exIdxP, exBox, exAlloc, exLoad, exStore, exFieldA, exIdxA, exLen, exPick, exUn, exBeq, exMM, exSeq, seqGo, exExt, binV, intOp, subc, AV.solid, S0, encI, encB, c_caesuraref08_Weight, hcells, encRs, encIs, hw1, hw2, hd1]
    exact FzK_I _ _
  · rw [if_neg hd1, wgtPs_eq]
    simp [AW_seq, AW_reg, AW_regD, AW_block, AW_cond, AW_skip, AW_exit, AW_ret, AW_scp, condR_true, condR_false, AThen_normal, AThen_ret, AThen_exit, ABlock_normal, ABlock_ret, ABlock_exit, AScope_normal, AScope_ret, AScope_exit, RetK_ret, RetK_normal, retAV_one, retAV_two, retAV_three, retAV_nil, RG_nil, RG_op, RG_guard, gdR_tt, gdR_ff, gdR_tf, gdR_ft, gdR_un, RG_call, callQ_clo, contK_ap, opR_some, RD_nil, RD_op0, RD_op1, opD0_some, opD1_some, RD_call, callQD_clo, RD_guard, gdD_tt, gdD_ff, gdD_tf, gdD_ft, gdD_un, psh_nil, psh_cons, Apt_nil, Apt_nilT, Apt_true, Apt_false, Dis_def, runT_val, runT_rd, runT_wr, runT_new, runT_mv, ex, put_some, put_none, ev_t, ev_c, argF_zero, argF_succ, set_g, set_n, cells_v, cells_sl, cells_agg, cells_own, cells_ptr, cells_clo, cells_eptr, cells_mp, putc, exBslice, lfill, exField, exIdxV, exIdxP, exBox, exAlloc, exLoad, exStore, exFieldA, exIdxA, exLen, exPick, exUn, exBeq, exMM, exSeq, seqGo, exExt, binV, intOp, subc, AV.solid, S0, encI, encB, c_caesuraref08_Weight, hcells, encRs, encIs, hw1, hw2, hd1]
    refine wp_loop (p := .mk k s g ks) (d := d) (T := sumW 2000 (1 + s.length + g.length) (ks.map (wgtP · (d + 1)))) (by simp only [Pat.kids, Len]; exact g3) (by omega) (h (by omega)) (fun q hq => by have := hb (by omega) q hq; omega) ⟨?_, ?_, ?_, ?_, 1 + s.length + g.length, ?_, ?_, by omega, by omega⟩ ?_
    · simp [put_some, argF_zero, argF_succ, encI]
    · simp [put_some]
    · simp [put_some, encI]
    · simp [set_g, hcells, encI, encRs, encIs]
    · simp [put_some, encI]
    · simp [Pat.kids]
    · intro f S e5
      simp [AW_seq, AW_reg, AW_regD, AW_block, AW_cond, AW_skip, AW_exit, AW_ret, AW_scp, condR_true, condR_false, AThen_normal, AThen_ret, AThen_exit, ABlock_normal, ABlock_ret, ABlock_exit, AScope_normal, AScope_ret, AScope_exit, RetK_ret, RetK_normal, retAV_one, retAV_two, retAV_three, retAV_nil, RG_nil, RG_op, RG_guard, gdR_tt, gdR_ff, gdR_tf, gdR_ft, gdR_un, RG_call, callQ_clo, contK_ap, opR_some, RD_nil, RD_op0, RD_op1, opD0_some, opD1_some, RD_call, callQD_clo, RD_guard, gdD_tt, gdD_ff, gdD_tf, gdD_ft, gdD_un, psh_nil, psh_cons, Apt_nil, Apt_nilT, Apt_true, Apt_false, Dis_def, runT_val, runT_rd, runT_wr, runT_new, runT_mv, ex, put_some, put_none, ev_t, ev_c, argF_zero, argF_succ, set_g, set_n, cells_v, cells_sl, cells_agg, cells_own, cells_ptr, cells_clo, cells_eptr, cells_mp, putc, exBslice, lfill, exField, exIdxV, exIdxP, exBox, exAlloc, exLoad, exStore, exFieldA, exIdxA, exLen, exPick, exUn, exBeq, exMM, exSeq, seqGo, exExt, binV, intOp, subc, AV.solid, S0, encI, encB, e5]
      exact FzK_I _ _
mutual
theorem weight_ok {P : Program} (hm : P.follows .mixedOrders = true) {fw : FuncId} (hI : Is P fw (c_caesuraref08_Weight fw) [4] 2) : ∀ (p : Pat) (d : Int), goodP p → 0 ≤ d → d ≤ 101 → PureC P fw [encPat p, encI d] (encI (wgtP p d))
  | .mk k s g ks, d, h, h0, hd => hI.pure hm rfl (Weight08_body _ d h ⟨h0, hd⟩ (fun h1 => weights_ok hm hI ks (d + 1) (by simp only [goodP] at h; exact h.2.2.2) (by omega) (by omega)))
theorem weights_ok {P : Program} (hm : P.follows .mixedOrders = true) {fw : FuncId} (hI : Is P fw (c_caesuraref08_Weight fw) [4] 2) : ∀ (ks : List Pat) (d : Int), goodPs ks → 0 ≤ d → d ≤ 101 → ∀ q ∈ ks, PureC P fw [encPat q, encI d] (encI (wgtP q d))
  | [], _, _, _, _, q, hq => by simp at hq
  | p :: ps, d, h, h0, hd, q, hq => by
    simp only [goodPs] at h
    rcases List.mem_cons.mp hq with e | hq
    · rw [e]; exact weight_ok hm hI p d h.1 h0 hd
    · exact weights_ok hm hI ps d h.2 h0 hd q hq
end

/-! ### nodes -/
inductive Nod where
  | mk (kind : Int) (name : ByteArray) (low high : Int) (kids : List Nod)
def Nod.kids : Nod → List Nod | .mk _ _ _ _ ks => ks
def encS (s : ByteArray) : AV := .v (.string s)
theorem closed_S (s : ByteArray) : Closed (encS s) := .v _
mutual
def encNod : Nod → AV
  | .mk k s a b ks => .agg [encI k, encS s, encI a, encI b, .sl false (encNods ks)]
def encNods : List Nod → List AV
  | [] => []
  | p :: ps => encNod p :: encNods ps
end
theorem encPat_4 (p : Pat) : ∃ x1 x2 x3 x4 : AV, encPat p = .agg [x1, x2, x3, x4] := by obtain ⟨k, s, a, b⟩ := p; rw [encPat_eq]; exact ⟨_, _, _, _, rfl⟩
mutual
theorem closed_Nod : ∀ (p : Nod), Closed (encNod p)
  | .mk k s a b ks => by
    rw [encNod]
    refine .agg _ (fun y hy => ?_)
    simp only [List.mem_cons, List.not_mem_nil, or_false] at hy
    rcases hy with rfl | rfl | rfl | rfl | rfl
    · exact closed_I _
    · exact closed_S _
    · exact closed_I _
    · exact closed_I _
    · exact .sl _ _ (closed_Nods ks)
theorem closed_Nods : ∀ (ks : List Nod), ∀ y ∈ encNods ks, Closed y
  | [], y, h => by simp [encNods] at h
  | p :: ps, y, h => by
    simp only [encNods, List.mem_cons] at h
    rcases h with rfl | h
    · exact closed_Nod p
    · exact closed_Nods ps y h
end
def LenS (s : ByteArray) : Prop := s.size ≤ 140737488351232
mutual
def goodN : Nod → Prop
  | .mk _ s _ _ ks => LenS s ∧ Len ks ∧ goodNs ks
def goodNs : List Nod → Prop
  | [] => True
  | p :: ps => goodN p ∧ goodNs ps
end
end Go.Rf


/- Own work: whether a book is more than is looked at. -/
set_option linter.unusedVariables false
set_option linter.unusedSimpArgs false
namespace Go.Rf
open Go.RowKit

structure Vr where
  name : ByteArray
  pat : Pat
  set : Bool
  pos : Int
structure Itm where
  kind : Int
  name : ByteArray
  number : Int
  cut : Bool
  before : Nod
  after : Nod
  pos : Int
structure Book where
  vars : List Vr
  rules : List Rul
  allows : List Itm
  used : List ByteArray
def encVr (v : Vr) : AV := .agg ([encS v.name] ++ (encPat v.pat).cells ++ [encB v.set, encI v.pos])
def encItm (v : Itm) : AV := .agg ([encI v.kind, encS v.name, encI v.number, encB v.cut] ++ (encNod v.before).cells ++ (encNod v.after).cells ++ [encI v.pos])
theorem encVr_7 (v : Vr) : ∃ x1 x2 x3 x4 : AV, encPat v.pat = .agg [x1, x2, x3, x4] ∧ encVr v = .agg [encS v.name, x1, x2, x3, x4, encB v.set, encI v.pos] := by
  obtain ⟨x1, x2, x3, x4, h⟩ := encPat_4 v.pat
  exact ⟨x1, x2, x3, x4, h, by unfold encVr; rw [h]; rfl⟩
theorem cl_all {cs : List AV} (h : Closed (.agg cs)) : ∀ y ∈ cs, Closed y := by cases h with | agg _ h => exact h
theorem closed_Vr (v : Vr) : Closed (encVr v) := by
  obtain ⟨x1, x2, x3, x4, h, k⟩ := encVr_7 v
  have hc := closed_Pat v.pat
  rw [h] at hc
  have := cl_all hc
  rw [k]
  refine .agg _ (fun y hy => ?_)
  simp only [List.mem_cons, List.not_mem_nil, or_false] at hy
  rcases hy with rfl | rfl | rfl | rfl | rfl | rfl | rfl
  · exact closed_S _
  · exact this _ (by simp)
  · exact this _ (by simp)
  · exact this _ (by simp)
  · exact this _ (by simp)
  · exact closed_B _
  · exact closed_I _
theorem closed_Itm (v : Itm) : Closed (encItm v) := by
  unfold encItm
  refine .agg _ (fun y hy => ?_)
  simp only [List.mem_append, List.mem_cons, List.not_mem_nil, or_false] at hy
  rcases hy with (((rfl | rfl | rfl | rfl) | hy) | hy) | rfl
  · exact closed_I _
  · exact closed_S _
  · exact closed_I _
  · exact closed_B _
  · exact (closed_Nod v.before).cells y hy
  · exact (closed_Nod v.after).cells y hy
  · exact closed_I _
def Book.bk (x : Book) : Bk := ⟨.sl false (x.vars.map encVr), x.rules, .sl false (x.allows.map encItm), .sl false (x.used.map encS)⟩
theorem Book.ok (x : Book) : BkOk x.bk := ⟨closed_map closed_Vr _, closed_map closed_Itm _, closed_map closed_S _, rfl, rfl, rfl⟩
def encBook (x : Book) : AV := encBk x.bk
structure goodBook (x : Book) : Prop where
  v : Len x.vars ∧ ∀ v ∈ x.vars, LenS v.name ∧ goodP v.pat
  r : Len x.rules ∧ ∀ r ∈ x.rules, goodP r.before ∧ goodP r.after
  a : Len x.allows ∧ ∀ i ∈ x.allows, LenS i.name ∧ goodN i.before ∧ goodN i.after
  u : Len x.used ∧ ∀ s ∈ x.used, LenS s
structure GbS (x : Book) (most : Int) (f : AF) (S : St) : Prop where
  e1 : f 1 = encI most
  e2 : f 2 = .ptr 0 0 0
  g0 : S.g 0 = some (.arr 4 [encBook x])
end Go.Rf

