import Derived.Test.YtgmbloldekkieaaRfVec
import Derived.Test.YtgmbloldekkieaaRfM18
set_option linter.unusedVariables false
set_option linter.unusedSimpArgs false
namespace Go.Rf
def c_far_in : AC :=
  (.block 2 (.loop (.seq (.reg none [
        ⟨(some 47), .bin .lss (.t 46) (.t 45), none, none⟩])
       (.seq (.cond (.t 47) .skip (.exit 2))
       (.seq (.block 3 (.seq (.reg none [
         ⟨(some 48), .idxA 1 (.t 44) (.t 46), none, none⟩,
         ⟨(some 49), .load none (.t 48), none, none⟩,
         ⟨(some 9), .mv (.t 49), none, none⟩])
        (.seq (.reg none [
         ⟨(some 50), .mv (.t 9), none, none⟩,
         ⟨(some 51), .bin .neq (.t 50) (.c (.v (.int .i64 (-1)))), none, none⟩])
        (.cond (.t 51) (.reg none [
          ⟨(some 52), .mv (.t 4), none, none⟩,
          ⟨(some 53), .mv (.t 9), none, none⟩,
          ⟨(some 54), .mv (.t 4), none, none⟩,
          ⟨(some 55), .mv (.t 9), none, none⟩,
          ⟨(some 56), .idxA 1 (.t 54) (.t 55), none, none⟩,
          ⟨(some 57), .load none (.t 56), none, none⟩,
          ⟨(some 58), .mv (.t 6), none, none⟩,
          ⟨(some 59), .bslice 1 1 (.v (.int .i64 0)) [(0, (.t 58))], none, none⟩,
          ⟨(some 60), .app 1 8 (.t 57) (.t 59), none, none⟩,
          ⟨(some 61), .idxA 1 (.t 52) (.t 53), none, none⟩,
          ⟨none, .store 1 (.t 61) (.t 60), none, none⟩]) .skip))))
       (.reg none [
        ⟨(some 62), .bin .add (.t 46) (.c (.v (.int .i64 1))), none, none⟩,
        ⟨(some 46), .mv (.t 62), none, none⟩]))))))
def c_far_back : AC :=
  (.block 6 (.loop (.seq (.reg none [
        ⟨(some 78), .bin .lss (.t 77) (.t 76), none, none⟩])
       (.seq (.cond (.t 78) .skip (.exit 6))
       (.seq (.block 7 (.seq (.reg none [
         ⟨(some 79), .idxA 1 (.t 75) (.t 77), none, none⟩,
         ⟨(some 80), .load none (.t 79), none, none⟩,
         ⟨(some 12), .mv (.t 80), none, none⟩])
        (.seq (.reg none [
         ⟨(some 81), .mv (.t 3), none, none⟩,
         ⟨(some 82), .mv (.t 12), none, none⟩,
         ⟨(some 83), .idxA 1 (.t 81) (.t 82), none, none⟩,
         ⟨(some 84), .load none (.t 83), none, none⟩,
         ⟨(some 85), .bin .eql (.t 84) (.c (.v (.int .i64 (-1)))), none, none⟩])
        (.cond (.t 85) (.seq (.reg none [
          ⟨(some 86), .mv (.t 3), none, none⟩,
          ⟨(some 87), .mv (.t 12), none, none⟩,
          ⟨(some 88), .mv (.t 3), none, none⟩,
          ⟨(some 89), .mv (.t 10), none, none⟩,
          ⟨(some 90), .idxA 1 (.t 88) (.t 89), none, none⟩,
          ⟨(some 91), .load none (.t 90), none, none⟩,
          ⟨(some 92), .bin .add (.t 91) (.c (.v (.int .i64 1))), none, none⟩,
          ⟨(some 93), .idxA 1 (.t 86) (.t 87), none, none⟩,
          ⟨none, .store 1 (.t 93) (.t 92), none, none⟩])
         (.reg none [
          ⟨(some 94), .mv (.t 5), none, none⟩,
          ⟨(some 95), .mv (.t 12), none, none⟩,
          ⟨(some 96), .bslice 1 1 (.v (.int .i64 0)) [(0, (.t 95))], none, none⟩,
          ⟨(some 97), .app 1 8 (.t 94) (.t 96), none, none⟩,
          ⟨(some 5), .mv (.t 97), none, none⟩])) .skip))))
       (.reg none [
        ⟨(some 98), .bin .add (.t 77) (.c (.v (.int .i64 1))), none, none⟩,
        ⟨(some 77), .mv (.t 98), none, none⟩]))))))
def c_far_rest : AC :=
  (.seq (.block 4 (.loop (.seq (.seq (.reg none [
     ⟨(some 64), .mv (.t 5), none, none⟩,
     ⟨(some 65), .len (.t 64), none, none⟩,
     ⟨(some 66), .bin .gtr (.t 65) (.c (.v (.int .i64 0))), none, none⟩])
    (.cond (.t 66) .skip (.exit 4)))
    (.seq (.block 5 (.seq (.reg none [
      ⟨(some 69), .mv (.t 5), none, none⟩,
      ⟨(some 70), .idxA 1 (.t 69) (.c (.v (.int .i64 0))), none, none⟩,
      ⟨(some 71), .load none (.t 70), none, none⟩,
      ⟨(some 10), .mv (.t 71), none, none⟩])
     (.seq (.reg none [
      ⟨(some 72), .mv (.t 4), none, none⟩,
      ⟨(some 73), .mv (.t 10), none, none⟩,
      ⟨(some 74), .idxA 1 (.t 72) (.t 73), none, none⟩,
      ⟨(some 75), .load none (.t 74), none, none⟩,
      ⟨(some 76), .len (.t 75), none, none⟩,
      ⟨(some 77), .mv (.c (.v (.int .i64 0))), none, none⟩])
     c_far_back)))
    (.reg none [
     ⟨(some 67), .mv (.t 5), none, none⟩,
     ⟨(some 68), .slc 1 (.t 67) (some (.c (.v (.int .i64 1)))) none, none, none⟩,
     ⟨(some 5), .mv (.t 68), none, none⟩])))))
  (.seq (.reg none [
   ⟨(some 99), .mv (.t 3), none, none⟩,
   ⟨(some 2), .mv (.t 99), none, none⟩])
  .ret))
def c_path_graph_far : AC :=
  (.seq (.reg none [
   ⟨(some 1), .box 2 (.t 0), none, none⟩,
   ⟨(some 2), .mv (.c (.sl true [])), none, none⟩])
  (.seq (.reg none [
   ⟨(some 13), .fieldA 0 (.t 1), none, none⟩,
   ⟨(some 14), .load none (.t 13), none, none⟩,
   ⟨(some 15), .len (.t 14), none, none⟩,
   ⟨(some 16), .mks 1 8 (.v (.int .i64 0)) (.t 15) (.t 15), none, none⟩,
   ⟨(some 3), .mv (.t 16), none, none⟩])
  (.seq (.reg none [
   ⟨(some 17), .fieldA 0 (.t 1), none, none⟩,
   ⟨(some 18), .load none (.t 17), none, none⟩,
   ⟨(some 19), .len (.t 18), none, none⟩,
   ⟨(some 20), .mks 1 24 (.sl true []) (.t 19) (.t 19), none, none⟩,
   ⟨(some 4), .mv (.t 20), none, none⟩])
  (.seq (.reg none [
   ⟨(some 5), .mv (.c (.sl true [])), none, none⟩])
  (.seq (.seq (.reg none [
   ⟨(some 21), .fieldA 0 (.t 1), none, none⟩,
   ⟨(some 22), .load none (.t 21), none, none⟩,
   ⟨(some 23), .len (.t 22), none, none⟩,
   ⟨(some 24), .mv (.c (.v (.int .i64 0))), none, none⟩])
  (.block 0 (.loop (.seq (.reg none [
     ⟨(some 25), .bin .lss (.t 24) (.t 23), none, none⟩])
    (.seq (.cond (.t 25) .skip (.exit 0))
    (.seq (.block 1 (.seq (.reg none [
      ⟨(some 26), .mv (.t 24), none, none⟩,
      ⟨(some 27), .idxA 1 (.t 22) (.t 24), none, none⟩,
      ⟨(some 28), .load none (.t 27), none, none⟩,
      ⟨(some 6), .mv (.t 26), none, none⟩,
      ⟨(some 7), .mv (.t 28), none, none⟩])
     (.seq (.reg none [
      ⟨(some 29), .mv (.t 3), none, none⟩,
      ⟨(some 30), .mv (.t 6), none, none⟩,
      ⟨(some 31), .idxA 1 (.t 29) (.t 30), none, none⟩,
      ⟨none, .store 1 (.t 31) (.c (.v (.int .i64 (-1)))), none, none⟩])
     (.seq (.seq (.reg none [
      ⟨(some 32), .fieldA 1 (.t 1), none, none⟩,
      ⟨(some 33), .load none (.t 32), none, none⟩,
      ⟨(some 34), .mv (.t 6), none, none⟩,
      ⟨(some 35), .idxA 1 (.t 33) (.t 34), none, none⟩,
      ⟨(some 36), .load none (.t 35), none, none⟩])
     (.cond (.t 36) (.seq (.reg none [
       ⟨(some 37), .mv (.t 3), none, none⟩,
       ⟨(some 38), .mv (.t 6), none, none⟩,
       ⟨(some 39), .idxA 1 (.t 37) (.t 38), none, none⟩,
       ⟨none, .store 1 (.t 39) (.c (.v (.int .i64 0))), none, none⟩])
      (.reg none [
       ⟨(some 40), .mv (.t 5), none, none⟩,
       ⟨(some 41), .mv (.t 6), none, none⟩,
       ⟨(some 42), .bslice 1 1 (.v (.int .i64 0)) [(0, (.t 41))], none, none⟩,
       ⟨(some 43), .app 1 8 (.t 40) (.t 42), none, none⟩,
       ⟨(some 5), .mv (.t 43), none, none⟩])) .skip))
     (.seq (.reg none [
      ⟨(some 44), .mv (.t 7), none, none⟩,
      ⟨(some 45), .len (.t 44), none, none⟩,
      ⟨(some 46), .mv (.c (.v (.int .i64 0))), none, none⟩])
     c_far_in)))))
    (.reg none [
     ⟨(some 63), .bin .add (.t 24) (.c (.v (.int .i64 1))), none, none⟩,
     ⟨(some 24), .mv (.t 63), none, none⟩])))))))
  c_far_rest)))))

def encGr (g : Gr) : AV := .agg [encIss g.next, encBs g.fin]
/-- What the first loop has done: k rows' marks, i rows' steps, and j of row i. -/
structure B1 (g : Gr) (k i j : Nat) (far wl : List Int) (back : List (List Int)) : Prop where
  fl : far.length = g.n
  fv : ∀ u, u < k → rd far u = if g.isEnd u = true then 0 else -1
  wv : wl = ((List.range k).filter g.isEnd).map Int.ofNat
  bl : back.length = g.n
  bs : ∀ t x, t < g.n → x ∈ back.getD t [] → ∃ s, s < g.n ∧ x = (s : Int) ∧ g.edge s t
  bc : ∀ s t, t < g.n → s < i → g.edge s t → (s : Int) ∈ back.getD t []
  bj : ∀ t l, t < g.n → g.next[i]? = some l → (t : Int) ∈ l.take j → (i : Int) ∈ back.getD t []
  bn : ∀ t, t < g.n → (back.getD t []).length ≤ 400 * i + j
/-- The state in both loops. -/
structure St1 (g : Gr) (f : AF) (S : St) (far wl : List Int) (back : List (List Int)) : Prop where
  s1 : f 1 = .ptr 0 0 0
  s3 : f 3 = .own 5 0 g.n
  s4 : f 4 = .own 10 0 g.n
  g0 : S.g 0 = some (.arr 2 [encGr g])
  g5 : S.g 5 = some (.arr 1 (far.map encI))
  rows : ∃ bv, S.g 10 = some (.arr 1 bv) ∧ Rows S.g S.n [0, 5, 10] (f 5 :: bv) (wl :: back)
  n : 12 ≤ S.n
def farI1 (g : Gr) (m : Nat) (f : AF) (S : St) : Prop :=
  ∃ i far wl back, i ≤ g.n ∧ m = g.n - i ∧ f 24 = encI i ∧ f 23 = encI g.n ∧ f 22 = encIss g.next ∧ B1 g i i 0 far wl back ∧ St1 g f S far wl back
def farJ1 (g : Gr) (i : Nat) (row far wl : List Int) (m : Nat) (f : AF) (S : St) : Prop :=
  ∃ j back, j ≤ row.length ∧ m = row.length - j ∧ f 46 = encI j ∧ f 45 = encI row.length ∧ f 44 = encIs row ∧ f 6 = encI i ∧ f 24 = encI i ∧ f 23 = encI g.n ∧ f 22 = encIss g.next ∧ B1 g (i + 1) i j far wl back ∧ St1 g f S far wl back
theorem far_in {P : Program} {g : Gr} (ok : GrOk g) {i : Nat} {row far wl : List Int} {back : List (List Int)} (hr : g.next[i]? = some row) {f : AF} {S : St} {Q : Exit → AF → St → Prop}
    (h0 : farJ1 g i row far wl row.length f S)
    (hq : ∀ f' S' back', f' 24 = encI i → f' 23 = encI g.n → f' 22 = encIss g.next → B1 g (i + 1) i row.length far wl back' → St1 g f' S' far wl back' → Q .normal f' S') : AW P c_far_in Q f S := by
  simp [AW_seq, AW_reg, AW_regD, AW_block, AW_cond, AW_skip, AW_exit, AW_ret, AW_scp, condR_true, condR_false, AThen_normal, AThen_ret, AThen_exit, ABlock_normal, ABlock_ret, ABlock_exit, AScope_normal, AScope_ret, AScope_exit, RetK_ret, RetK_normal, retAV_one, retAV_two, retAV_three, retAV_nil, RG_nil, RG_op, RG_guard, gdR_tt, gdR_ff, gdR_tf, gdR_ft, gdR_un, RG_call, callQ_clo, contK_ap, opR_some, RD_nil, RD_op0, RD_op1, opD0_some, opD1_some, RD_call, callQD_clo, RD_guard, gdD_tt, gdD_ff, gdD_tf, gdD_ft, gdD_un, psh_nil, psh_cons, Apt_nil, Apt_nilT, Apt_true, Apt_false, Dis_def, runT_val, runT_rd, runT_wr, runT_new, runT_mv, ex, put_some, put_none, ev_t, ev_c, argF_zero, argF_succ, set_g, set_n, cells_v, cells_sl, cells_agg, cells_own, cells_ptr, cells_clo, cells_eptr, cells_mp, putc, exBslice, lfill, exField, exIdxV, exIdxP, exBox, exAlloc, exLoad, exStore, exFieldA, exIdxA, exLen, exPick, exUn, exBeq, exMM, exSeq, seqGo, exExt, binV, intOp, subc, AV.solid, S0, encI, encB, c_far_in]
  refine AW_loop (farJ1 g i row far wl) row.length h0 ?_
  rintro m f S ⟨j, back, hj, rfl, e46, e45, e44, e6, e24, e23, e22, b, st⟩
  by_cases hlt : j < row.length
  · by_cases ht : row[j] = -1
    · have hc : (row[j] != -1) = false := by simp [ht]
      simp [AW_seq, AW_reg, AW_regD, AW_block, AW_cond, AW_skip, AW_exit, AW_ret, AW_scp, condR_true, condR_false, AThen_normal, AThen_ret, AThen_exit, ABlock_normal, ABlock_ret, ABlock_exit, AScope_normal, AScope_ret, AScope_exit, RetK_ret, RetK_normal, retAV_one, retAV_two, retAV_three, retAV_nil, RG_nil, RG_op, RG_guard, gdR_tt, gdR_ff, gdR_tf, gdR_ft, gdR_un, RG_call, callQ_clo, contK_ap, opR_some, RD_nil, RD_op0, RD_op1, opD0_some, opD1_some, RD_call, callQD_clo, RD_guard, gdD_tt, gdD_ff, gdD_tf, gdD_ft, gdD_un, psh_nil, psh_cons, Apt_nil, Apt_nilT, Apt_true, Apt_false, Dis_def, runT_val, runT_rd, runT_wr, runT_new, runT_mv, ex, put_some, put_none, ev_t, ev_c, argF_zero, argF_succ, set_g, set_n, cells_v, cells_sl, cells_agg, cells_own, cells_ptr, cells_clo, cells_eptr, cells_mp, putc, exBslice, lfill, exField, exIdxV, exIdxP, exBox, exAlloc, exLoad, exStore, exFieldA, exIdxA, exLen, exPick, exUn, exBeq, exMM, exSeq, seqGo, exExt, binV, intOp, subc, AV.solid, S0, encI, encB, e46, e45, e44, e6, e24, e23, e22, encIs, hlt, hc]
      have hrl : row.length ≤ 400 := ok.rows _ (List.mem_of_getElem? hr)
      rw [wrap_in _ (by omega)]
      refine ⟨row.length - (j + 1), by omega, j + 1, back, by omega, rfl, ?_, ?_, ?_, ?_, ?_, ?_, ?_, ?_, ?_⟩
      · simp [put_some, encI]
      · simp [put_some, e45, encI]
      · simp [put_some, e44, encIs]
      · simp [put_some, e6, encI]
      · simp [put_some, e24, encI]
      · simp [put_some, e23, encI]
      · simp [put_some, e22]
      · refine ⟨b.fl, b.fv, b.wv, b.bl, b.bs, b.bc, fun t l ht2 hl2 hm => ?_, fun t ht2 => by have := b.bn t ht2; omega⟩
        rw [hr] at hl2; cases hl2
        rw [List.take_add_one, List.getElem?_eq_getElem hlt] at hm
        simp only [Option.toList_some, List.mem_append, List.mem_singleton] at hm
        rcases hm with hm | hm
        · exact b.bj t row ht2 hr hm
        · omega
      · exact ⟨by simp [put_some, st.s1], by simp [put_some, st.s3], by simp [put_some, st.s4], st.g0, st.g5, by
          obtain ⟨bv, h1, h2⟩ := st.rows
          exact ⟨bv, h1, by simpa [put_some] using h2.frame (by show S.n ≤ _; omega) (fun _ _ _ => rfl)⟩, by have := st.n; simp; omega⟩
    · have hc : (row[j] != -1) = true := by simp [ht]
      have hrl : row.length ≤ 400 := ok.rows _ (List.mem_of_getElem? hr)
      have htb : 0 ≤ row[j] ∧ row[j] < g.n := by
        rcases ok.at_ row (List.mem_of_getElem? hr) row[j] (List.getElem_mem hlt) with h | h
        · exact (ht h).elim
        · exact h
      obtain ⟨bv, h10, rows⟩ := st.rows
      have hbl := b.bl
      have hvl : bv.length = g.n := by have := rows.len; simp at this; omega
      have htn : (row[j]).toNat < bv.length := by omega
      have htn2 : (row[j]).toNat < back.length := by omega
      have hv : Vec S.g bv[(row[j]).toNat] 1 ((back[(row[j]).toNat]).map encI) := rows.row ((row[j]).toNat + 1) (by simpa using htn) (by simpa using htn2)
      have hcell : (bv[(row[j]).toNat]).cells = [bv[(row[j]).toNat]] := by
        rcases hv with ⟨e, _⟩ | ⟨_, _, _, e, _⟩ <;> rw [e] <;> rfl
      have hbn : (back[(row[j]).toNat]).length ≤ 400 * i + j := by
        have := b.bn (row[j]).toNat (by omega)
        simpa [List.getD_eq_getElem?_getD, List.getElem?_eq_getElem htn2] using this
      have hi9 : i < 9000 := by
        have := (List.getElem?_eq_some_iff.mp hr).1
        have := ok.n
        omega
      have happ := fun (n nid : Nat) (x : AV) (hx : x.cells.length = 1) => Vec.app (n := n) (nid := nid) (by_ := 8) hv (cells_I _) hx (appOk8 (by rw [List.length_map]; omega))
      simp [AW_seq, AW_reg, AW_regD, AW_block, AW_cond, AW_skip, AW_exit, AW_ret, AW_scp, condR_true, condR_false, AThen_normal, AThen_ret, AThen_exit, ABlock_normal, ABlock_ret, ABlock_exit, AScope_normal, AScope_ret, AScope_exit, RetK_ret, RetK_normal, retAV_one, retAV_two, retAV_three, retAV_nil, RG_nil, RG_op, RG_guard, gdR_tt, gdR_ff, gdR_tf, gdR_ft, gdR_un, RG_call, callQ_clo, contK_ap, opR_some, RD_nil, RD_op0, RD_op1, opD0_some, opD1_some, RD_call, callQD_clo, RD_guard, gdD_tt, gdD_ff, gdD_tf, gdD_ft, gdD_un, psh_nil, psh_cons, Apt_nil, Apt_nilT, Apt_true, Apt_false, Dis_def, runT_val, runT_rd, runT_wr, runT_new, runT_mv, ex, put_some, put_none, ev_t, ev_c, argF_zero, argF_succ, set_g, set_n, cells_v, cells_sl, cells_agg, cells_own, cells_ptr, cells_clo, cells_eptr, cells_mp, putc, exBslice, lfill, exField, exIdxV, exIdxP, exBox, exAlloc, exLoad, exStore, exFieldA, exIdxA, exLen, exPick, exUn, exBeq, exMM, exSeq, seqGo, exExt, binV, intOp, subc, AV.solid, S0, encI, encB, e46, e45, e44, e6, e24, e23, e22, st.s4, encIs, hlt, hc, htb.1, htb.2, h10, hvl, htn, hcell]
      rw [happ _ _ _ (by simp [AV.cells])]
      have hav : ∀ (m nid : Nat) (bk : Option Blk) (k : Nat), k ∈ [0, 5, 10] → 12 ≤ nid → ((St.without ⟨m, S.g⟩ bv[(row[j]).toNat]).set nid bk).g k = S.g k := by
        intro m nid bk k hk hnid
        exact rows.av (t := (row[j]).toNat + 1) (by simpa using htn) bk hk (by intro e; subst e; simp at hk; omega)
      have hg10 := fun (m nid : Nat) (bk : Option Blk) (hnid : 12 ≤ nid) => (hav m nid bk 10 (by simp) hnid).trans h10
      have hsn := st.n
      have hw : ∀ (m : Nat), (St.without ⟨m, S.g⟩ bv[(row[j]).toNat]).g 10 = some (.arr 1 bv) := by
        intro m
        rw [without_g 10 (fun h6 => (rows.out _ (by simp) 10 h6).2 (by simp))]
        exact h10
      simp [AW_seq, AW_reg, AW_regD, AW_block, AW_cond, AW_skip, AW_exit, AW_ret, AW_scp, condR_true, condR_false, AThen_normal, AThen_ret, AThen_exit, ABlock_normal, ABlock_ret, ABlock_exit, AScope_normal, AScope_ret, AScope_exit, RetK_ret, RetK_normal, retAV_one, retAV_two, retAV_three, retAV_nil, RG_nil, RG_op, RG_guard, gdR_tt, gdR_ff, gdR_tf, gdR_ft, gdR_un, RG_call, callQ_clo, contK_ap, opR_some, RD_nil, RD_op0, RD_op1, opD0_some, opD1_some, RD_call, callQD_clo, RD_guard, gdD_tt, gdD_ff, gdD_tf, gdD_ft, gdD_un, psh_nil, psh_cons, Apt_nil, Apt_nilT, Apt_true, Apt_false, Dis_def, runT_val, runT_rd, runT_wr, runT_new, runT_mv, ex, put_some, put_none, ev_t, ev_c, argF_zero, argF_succ, set_g, set_n, cells_v, cells_sl, cells_agg, cells_own, cells_ptr, cells_clo, cells_eptr, cells_mp, putc, exBslice, lfill, exField, exIdxV, exIdxP, exBox, exAlloc, exLoad, exStore, exFieldA, exIdxA, exLen, exPick, exUn, exBeq, exMM, exSeq, seqGo, exExt, binV, intOp, subc, AV.solid, S0, encI, encB, e46, e45, e44, e6, e24, e23, e22, st.s4, encIs, htb.1, htb.2, hvl, htn, hcell, hw]
      rw [wrap_in _ (by omega)]
      have hgd : ∀ t, (back.set (row[j]).toNat (back[(row[j]).toNat] ++ [(i : Int)])).getD t [] = if t = (row[j]).toNat then back[(row[j]).toNat] ++ [(i : Int)] else back.getD t [] := by
        intro t
        simp only [List.getD_eq_getElem?_getD, List.getElem?_set]
        by_cases h : (row[j]).toNat = t
        · subst h; simp [htn2]
        · rw [if_neg h, if_neg (Ne.symm h)]
      have hgt : back.getD (row[j]).toNat [] = back[(row[j]).toNat] := by simp [List.getD_eq_getElem?_getD, List.getElem?_eq_getElem htn2]
      refine ⟨row.length - (j + 1), by omega, j + 1, back.set (row[j]).toNat (back[(row[j]).toNat] ++ [(i : Int)]), by omega, rfl, ?_, ?_, ?_, ?_, ?_, ?_, ?_, ?_, ?_⟩
      · simp [put_some, encI]
      · simp [put_some, e45, encI]
      · simp [put_some, e44, encIs]
      · simp [put_some, e6, encI]
      · simp [put_some, e24, encI]
      · simp [put_some, e23, encI]
      · simp [put_some, e22]
      · refine ⟨b.fl, b.fv, b.wv, by simpa using b.bl, fun t x ht2 hx => ?_, fun s t ht2 hs he => ?_, fun t l ht2 hl2 hm => ?_, fun t ht2 => ?_⟩
        · rw [hgd] at hx
          split at hx
          · rename_i e; subst e
            rcases List.mem_append.mp hx with hx | hx
            · exact b.bs _ x ht2 (by rw [hgt]; exact hx)
            · simp at hx
              exact ⟨i, (List.getElem?_eq_some_iff.mp hr).1, hx, row, hr, by rw [Int.toNat_of_nonneg htb.1]; exact List.getElem_mem hlt⟩
          · exact b.bs t x ht2 hx
        · have := b.bc s t ht2 hs he
          rw [hgd]; split
          · rename_i e; subst e; rw [hgt] at this; exact List.mem_append_left _ this
          · exact this
        · rw [hr] at hl2; cases hl2
          rw [hgd]
          by_cases e : t = (row[j]).toNat
          · rw [if_pos e]; simp
          · rw [if_neg e]
            rw [List.take_add_one, List.getElem?_eq_getElem hlt] at hm
            simp only [Option.toList_some, List.mem_append, List.mem_singleton] at hm
            rcases hm with hm | hm
            · exact b.bj t row ht2 hr hm
            · omega
        · have := b.bn t ht2
          rw [hgd]; split
          · simp; omega
          · omega
      · refine ⟨by simp [put_some, st.s1], by simp [put_some, st.s3], by simp [put_some, st.s4], ?_, ?_, ⟨bv.set (row[j]).toNat (.own (S.n + 1 + 3 + 2 + 8) 0 ((back[(row[j]).toNat]).length + 1)), by simp [set_g], ?_⟩, by simp [without_n]⟩
        · have := hav (S.n + 1 + 3 + 2 + 11) (S.n + 1 + 3 + 2 + 8) (some (Blk.arr 1 (List.map encI back[(row[j]).toNat] ++ [AV.v (Value.int IntKind.i64 i)]))) 0 (by simp) (by omega)
          simp only [set_g] at this ⊢
          simpa using this.trans st.g0
        · have := hav (S.n + 1 + 3 + 2 + 11) (S.n + 1 + 3 + 2 + 8) (some (Blk.arr 1 (List.map encI back[(row[j]).toNat] ++ [AV.v (Value.int IntKind.i64 i)]))) 5 (by simp) (by omega)
          simp only [set_g] at this ⊢
          simpa using this.trans st.g5
        · have h2 := rows.app (t := (row[j]).toNat + 1) (m := S.n + 1 + 3 + 2 + 11) (nid := S.n + 1 + 3 + 2 + 8) (by simpa using htn) (by simpa using htn2) (i : Int) (by omega) (by omega) (by simp)
          have h3 := h2.frame (n' := S.n + 1 + 3 + 2 + 11 + 2) (g' := fun k => if k = 10 then some (Blk.arr 1 (bv.set (row[j]).toNat (.own (S.n + 1 + 3 + 2 + 8) 0 ((back[(row[j]).toNat]).length + 1)))) else ((St.without ⟨S.n + 1 + 3 + 2 + 11, S.g⟩ bv[(row[j]).toNat]).set (S.n + 1 + 3 + 2 + 8) (some (Blk.arr 1 (List.map encI back[(row[j]).toNat] ++ [encI i])))).g k) (by omega) (fun k _ hk => by
            rw [if_neg (by intro e; subst e; simp at hk)]; rfl)
          simp only [put_some, without_n]
          simp only [Nat.reduceEqDiff, if_false, if_true]
          exact h3
  · have : j = row.length := by omega
    subst this
    simp [AW_seq, AW_reg, AW_regD, AW_block, AW_cond, AW_skip, AW_exit, AW_ret, AW_scp, condR_true, condR_false, AThen_normal, AThen_ret, AThen_exit, ABlock_normal, ABlock_ret, ABlock_exit, AScope_normal, AScope_ret, AScope_exit, RetK_ret, RetK_normal, retAV_one, retAV_two, retAV_three, retAV_nil, RG_nil, RG_op, RG_guard, gdR_tt, gdR_ff, gdR_tf, gdR_ft, gdR_un, RG_call, callQ_clo, contK_ap, opR_some, RD_nil, RD_op0, RD_op1, opD0_some, opD1_some, RD_call, callQD_clo, RD_guard, gdD_tt, gdD_ff, gdD_tf, gdD_ft, gdD_un, psh_nil, psh_cons, Apt_nil, Apt_nilT, Apt_true, Apt_false, Dis_def, runT_val, runT_rd, runT_wr, runT_new, runT_mv, ex, put_some, put_none, ev_t, ev_c, argF_zero, argF_succ, set_g, set_n, cells_v, cells_sl, cells_agg, cells_own, cells_ptr, cells_clo, cells_eptr, cells_mp, putc, exBslice, lfill, exField, exIdxV, exIdxP, exBox, exAlloc, exLoad, exStore, exFieldA, exIdxA, exLen, exPick, exUn, exBeq, exMM, exSeq, seqGo, exExt, binV, intOp, subc, AV.solid, S0, encI, encB, e46, e45, e44, e6, e24, e23, e22, encIs]
    refine hq _ _ back ?_ ?_ ?_ b ?_
    · simp [put_some, e24, encI]
    · simp [put_some, e23, encI]
    · simp [put_some, e22]
    · exact ⟨by simp [put_some, st.s1], by simp [put_some, st.s3], by simp [put_some, st.s4], st.g0, st.g5, by
        obtain ⟨bv, h1, h2⟩ := st.rows
        exact ⟨bv, h1, by simpa [put_some] using h2.frame (by show S.n ≤ _; omega) (fun _ _ _ => rfl)⟩, by have := st.n; simp; omega⟩
theorem B1.next {g : Gr} {k i : Nat} {row far wl : List Int} {back : List (List Int)} (b : B1 g k i row.length far wl back) (hr : g.next[i]? = some row) (hl : row.length ≤ 400) : B1 g k (i + 1) 0 far wl back := by
  refine ⟨b.fl, b.fv, b.wv, b.bl, b.bs, fun s t ht hs he => ?_, by simp, fun t ht => by have := b.bn t ht; omega⟩
  by_cases h : s = i
  · subst h
    obtain ⟨r, h1, h2⟩ := he
    rw [hr] at h1; cases h1
    exact b.bj t row ht hr (by rw [List.take_of_length_le (Nat.le_refl _)]; exact h2)
  · exact b.bc s t ht (by omega) he
structure BackOk (g : Gr) (back : List (List Int)) : Prop where
  bl : back.length = g.n
  bs : ∀ t x, t < g.n → x ∈ back.getD t [] → ∃ s, s < g.n ∧ x = (s : Int) ∧ g.edge s t
  bc : ∀ s t, s < g.n → t < g.n → g.edge s t → (s : Int) ∈ back.getD t []
  bn : ∀ t, t < g.n → (back.getD t []).length ≤ 4000000
structure St2 (g : Gr) (back : List (List Int)) (bv : List AV) (f : AF) (S : St) (far : List Int) (q : List Nat) : Prop where
  s3 : f 3 = .own 5 0 g.n
  s4 : f 4 = .own 10 0 g.n
  g5 : S.g 5 = some (.arr 1 (far.map encI))
  g10 : S.g 10 = some (.arr 1 bv)
  rows : Rows S.g S.n [0, 5, 10] (f 5 :: bv) (q.map Int.ofNat :: back)
  n : 12 ≤ S.n
def farI2 (g : Gr) (back : List (List Int)) (bv : List AV) (m : Nat) (f : AF) (S : St) : Prop :=
  ∃ far q, Bfs g far q ∧ m = 2 * (g.n - cntA far) + q.length ∧ m ≤ 3 * g.n ∧ St2 g back bv f S far q
def farJ2 (g : Gr) (back : List (List Int)) (bv : List AV) (h : Nat) (row : List Int) (M k : Nat) (f : AF) (S : St) : Prop :=
  ∃ j far q, j ≤ row.length ∧ k = row.length - j ∧ f 77 = encI j ∧ f 76 = encI row.length ∧ f 10 = encI h ∧ bv[h]? = some (f 75) ∧ Bfs g far (h :: q) ∧ 2 * (g.n - cntA far) + q.length + 1 ≤ M ∧
    (∀ x ∈ row.take j, 0 ≤ rd far x.toNat) ∧ St2 g back bv f S far (h :: q)
theorem rd_get {l : List Int} {s : Nat} (h : s < l.length) : l[s] = rd l s := by simp [rd, List.getD_eq_getElem?_getD, List.getElem?_eq_getElem h]
theorem far_back {P : Program} {g : Gr} (ok : GrOk g) {back : List (List Int)} {bv : List AV} (bo : BackOk g back) {h : Nat} {row : List Int} {M : Nat} (hh : h < g.n) (hr : back[h]? = some row) (hM : M ≤ 3 * g.n) {f : AF} {S : St} {Q : Exit → AF → St → Prop}
    (h0 : farJ2 g back bv h row M row.length f S)
    (hq : ∀ f' S' far q, Bfs g far (h :: q) → 2 * (g.n - cntA far) + q.length + 1 ≤ M → (∀ x ∈ row, 0 ≤ rd far x.toNat) → St2 g back bv f' S' far (h :: q) → Q .normal f' S') : AW P c_far_back Q f S := by
  have hn := ok.n
  have hgn : g.n = g.next.length := rfl
  have hrow : back.getD h [] = row := by simp [List.getD_eq_getElem?_getD, hr]
  have hrl : row.length ≤ 4000000 := by have := bo.bn h hh; rw [hrow] at this; exact this
  simp [AW_seq, AW_reg, AW_regD, AW_block, AW_cond, AW_skip, AW_exit, AW_ret, AW_scp, condR_true, condR_false, AThen_normal, AThen_ret, AThen_exit, ABlock_normal, ABlock_ret, ABlock_exit, AScope_normal, AScope_ret, AScope_exit, RetK_ret, RetK_normal, retAV_one, retAV_two, retAV_three, retAV_nil, RG_nil, RG_op, RG_guard, gdR_tt, gdR_ff, gdR_tf, gdR_ft, gdR_un, RG_call, callQ_clo, contK_ap, opR_some, RD_nil, RD_op0, RD_op1, opD0_some, opD1_some, RD_call, callQD_clo, RD_guard, gdD_tt, gdD_ff, gdD_tf, gdD_ft, gdD_un, psh_nil, psh_cons, Apt_nil, Apt_nilT, Apt_true, Apt_false, Dis_def, runT_val, runT_rd, runT_wr, runT_new, runT_mv, ex, put_some, put_none, ev_t, ev_c, argF_zero, argF_succ, set_g, set_n, cells_v, cells_sl, cells_agg, cells_own, cells_ptr, cells_clo, cells_eptr, cells_mp, putc, exBslice, lfill, exField, exIdxV, exIdxP, exBox, exAlloc, exLoad, exStore, exFieldA, exIdxA, exLen, exPick, exUn, exBeq, exMM, exSeq, seqGo, exExt, binV, intOp, subc, AV.solid, S0, encI, encB, c_far_back]
  refine AW_loop (farJ2 g back bv h row M) row.length h0 ?_
  rintro m f S ⟨j, far, q, hj, rfl, e77, e76, e10, e75, b, hMm, hdone, ⟨s3, s4, g5, g10, rows, sn⟩⟩
  have hfl := b.len
  by_cases hlt : j < row.length
  · obtain ⟨s, hs, hx, hedge⟩ := bo.bs h row[j] hh (by rw [hrow]; exact List.getElem_mem hlt)
    have hbvl : bv.length = g.n := by have := rows.len; have := bo.bl; simp at *; omega
    have hb1 : h < bv.length := by omega
    have hb2 : h < back.length := by rw [bo.bl]; exact hh
    have hvrow : Vec S.g (f 75) 1 (row.map encI) := by
      have h1 := rows.row (h + 1) (by simp; omega) (by simp; omega)
      have h2 : (f 5 :: bv)[h + 1]'(by simp; omega) = f 75 := by
        rw [List.getElem_cons_succ]; exact (List.getElem?_eq_some_iff.mp e75).2
      have h3 : ((h :: q).map Int.ofNat :: back)[h + 1]'(by simp; omega) = row := by
        rw [List.getElem_cons_succ]; exact (List.getElem?_eq_some_iff.mp hr).2
      rw [h2, h3] at h1; exact h1
    obtain ⟨id, off, ys, e75', hgid, hoff, hdrop⟩ : ∃ id off ys, f 75 = .own id off row.length ∧ S.g id = some (.arr 1 ys) ∧ off ≤ ys.length ∧ ys.drop off = row.map encI := by
      rcases hvrow with ⟨_, he⟩ | ⟨id, off, ys, h1, h2, h3, h4⟩
      · have : row = [] := by simpa using he
        subst this; simp at hlt
      · exact ⟨id, off, ys, by simpa using h1, h2, h3, h4⟩
    have hys : off + row.length = ys.length := by have := congrArg List.length hdrop; simp at this; omega
    have hys' : off + row.length ≤ ys.length := by omega
    have hget : ys[off + j]? = some (encI row[j]) := by
      have : (ys.drop off)[j]? = some (encI row[j]) := by rw [hdrop]; simp [List.getElem?_eq_getElem hlt]
      rwa [List.getElem?_drop] at this
    rw [hx] at hget
    simp only [encI] at hget
    have hsf : s < far.length := by omega
    have hhf : h < far.length := by omega
    have hsI : (s : Int) < g.n := by omega
    have hhI : (h : Int) < g.n := by omega
    obtain ⟨hqa, hqb⟩ := b.qa h (by simp)
    have hqc := b.cnt h hqa hqb
    have hcl := cntA_le far
    have hfh := rd_get hhf
    have hgs : far[s]? = some far[s] := List.getElem?_eq_getElem hsf
    have hgh : far[h]? = some far[h] := List.getElem?_eq_getElem hhf
    by_cases hu : far[s] = -1
    · have hc : (far[s] == -1) = true := by simp [hu]
      have hw : IntKind.i64.wrap (far[h] + 1) = far[h] + 1 := wrap_in _ (by omega)
      have hv0 : Vec S.g (f 5) 1 (((h :: q).map Int.ofNat).map encI) := rows.row 0 (by simp) (by simp)
      have hout : ∀ k ∈ [0, 5, 10], k ∉ (f 5).ids := fun k hk h6 => (rows.out (f 5) (by simp) k h6).2 hk
      simp [AW_seq, AW_reg, AW_regD, AW_block, AW_cond, AW_skip, AW_exit, AW_ret, AW_scp, condR_true, condR_false, AThen_normal, AThen_ret, AThen_exit, ABlock_normal, ABlock_ret, ABlock_exit, AScope_normal, AScope_ret, AScope_exit, RetK_ret, RetK_normal, retAV_one, retAV_two, retAV_three, retAV_nil, RG_nil, RG_op, RG_guard, gdR_tt, gdR_ff, gdR_tf, gdR_ft, gdR_un, RG_call, callQ_clo, contK_ap, opR_some, RD_nil, RD_op0, RD_op1, opD0_some, opD1_some, RD_call, callQD_clo, RD_guard, gdD_tt, gdD_ff, gdD_tf, gdD_ft, gdD_un, psh_nil, psh_cons, Apt_nil, Apt_nilT, Apt_true, Apt_false, Dis_def, runT_val, runT_rd, runT_wr, runT_new, runT_mv, ex, put_some, put_none, ev_t, ev_c, argF_zero, argF_succ, set_g, set_n, cells_v, cells_sl, cells_agg, cells_own, cells_ptr, cells_clo, cells_eptr, cells_mp, putc, exBslice, lfill, exField, exIdxV, exIdxP, exBox, exAlloc, exLoad, exStore, exFieldA, exIdxA, exLen, exPick, exUn, exBeq, exMM, exSeq, seqGo, exExt, binV, intOp, subc, AV.solid, S0, encI, encB, e77, e76, e10, hlt, e75', hgid, hys', hget, s3, s4, g5, hsf, hhf, hsI, hhI, hfl, hgs, hgh, hc, hw]
      rw [Vec.app (xs := ((h :: q).map Int.ofNat).map encI) (hv0.frame (fun k hk => ?_)) (cells_I _) (by simp [AV.cells]) (appOk8 (by simp; omega))]
      · simp [AW_seq, AW_reg, AW_regD, AW_block, AW_cond, AW_skip, AW_exit, AW_ret, AW_scp, condR_true, condR_false, AThen_normal, AThen_ret, AThen_exit, ABlock_normal, ABlock_ret, ABlock_exit, AScope_normal, AScope_ret, AScope_exit, RetK_ret, RetK_normal, retAV_one, retAV_two, retAV_three, retAV_nil, RG_nil, RG_op, RG_guard, gdR_tt, gdR_ff, gdR_tf, gdR_ft, gdR_un, RG_call, callQ_clo, contK_ap, opR_some, RD_nil, RD_op0, RD_op1, opD0_some, opD1_some, RD_call, callQD_clo, RD_guard, gdD_tt, gdD_ff, gdD_tf, gdD_ft, gdD_un, psh_nil, psh_cons, Apt_nil, Apt_nilT, Apt_true, Apt_false, Dis_def, runT_val, runT_rd, runT_wr, runT_new, runT_mv, ex, put_some, put_none, ev_t, ev_c, argF_zero, argF_succ, set_g, set_n, cells_v, cells_sl, cells_agg, cells_own, cells_ptr, cells_clo, cells_eptr, cells_mp, putc, exBslice, lfill, exField, exIdxV, exIdxP, exBox, exAlloc, exLoad, exStore, exFieldA, exIdxA, exLen, exPick, exUn, exBeq, exMM, exSeq, seqGo, exExt, binV, intOp, subc, AV.solid, S0, encI, encB, e77, e76, e10, s3, s4]
        rw [wrap_in _ (by omega)]
        have hset : ∀ x, rd (far.set s (rd far h + 1)) x = if x = s then rd far h + 1 else rd far x := fun x => rd_set hsf _ x
        have hrs : rd far s = -1 := by rw [← rd_get hsf]; exact hu
        have hcs := cntA_set hsf (by omega) (x := rd far h + 1) (by omega)
        have hcl2 := cntA_le (far.set s (rd far h + 1))
        rw [List.length_set] at hcl2
        refine ⟨row.length - (j + 1), by omega, j + 1, far.set s (rd far h + 1), q ++ [s], by omega, rfl, ?_, ?_, ?_, ?_, ?_, ?_, ?_, ?_⟩
        · simp [put_some, encI]
        · simp [put_some, e76, encI]
        · simp [put_some, e10, encI]
        · simp [put_some, e75]
        · exact b.assign hs hedge hrs
        · rw [hcs, List.length_append]; simp only [List.length_singleton]; omega
        · intro x hxm
          rw [hset]
          rw [List.take_add_one, List.getElem?_eq_getElem hlt] at hxm
          simp only [Option.toList_some, List.mem_append, List.mem_singleton] at hxm
          rcases hxm with hxm | hxm
          · split
            · omega
            · exact hdone x hxm
          · rw [if_pos (by omega)]; omega
        · have hwo : ∀ (n1 n2 k : Nat) (b1 : Option Blk), k ≠ 5 → (St.without ⟨n1, (St.set ⟨n2, S.g⟩ 5 b1).g⟩ (f 5)).g k = (St.without ⟨n1, S.g⟩ (f 5)).g k := by
            intro n1 n2 k b1 hk
            cases f 5 <;> simp [St.without, set_g, hk]
          refine ⟨by simp [put_some, s3], by simp [put_some, s4], ?_, ?_, ?_, by simp [without_n]⟩
          · simp only [set_g]
            rw [if_neg (by omega), without_g 5 (hout 5 (by simp))]
            simp [set_g, List.map_set, encI, hfh]
          · simp only [set_g]
            rw [if_neg (by omega), without_g 10 (hout 10 (by simp))]
            simp [set_g, g10]
          · have r2 := rows.app (t := 0) (m := S.n + 1 + 3 + 5 + 9 + 5) (nid := S.n + 1 + 3 + 5 + 9 + 3) (by simp) (by simp) (s : Int) (by omega) (by omega) (by simp)
            have r3 := r2.frame (n' := S.n + 1 + 3 + 5 + 9 + 5 + 2) (g' := fun k => if k = S.n + 1 + 3 + 5 + 9 + 3 then some (Blk.arr 1 (AV.v (Value.int IntKind.i64 ↑h) :: (List.map (encI ∘ Int.ofNat) q ++ [AV.v (Value.int IntKind.i64 ↑s)]))) else (St.without ⟨S.n + 1 + 3 + 5 + 9 + 5, (St.set ⟨S.n + 1 + 3 + 5 + 9, S.g⟩ 5 (some (Blk.arr 1 ((List.map encI far).set s (AV.v (Value.int IntKind.i64 (far[h] + 1))))))).g⟩ (f 5)).g k) (by omega) (fun k _ hk => by
              simp only [set_g]
              by_cases hkn : k = S.n + 1 + 3 + 5 + 9 + 3
              · rw [if_pos hkn, if_pos hkn]; simp [encI]
              · rw [if_neg hkn, if_neg hkn, hwo _ _ _ _ (by simp at hk; omega)]; rfl)
            simp only [put_some, without_n]
            simp only [Nat.reduceEqDiff, if_false, if_true]
            have e1 : (f 5 :: bv).set 0 (AV.own (S.n + 1 + 3 + 5 + 9 + 3) 0 (((h :: q).map Int.ofNat :: back)[0].length + 1)) = AV.own (S.n + 1 + 3 + 5 + 9 + 3) 0 (q.length + 1 + 1) :: bv := by simp
            have e2 : ((h :: q).map Int.ofNat :: back).set 0 (((h :: q).map Int.ofNat :: back)[0] ++ [(s : Int)]) = (h :: (q ++ [s])).map Int.ofNat :: back := by simp
            rw [e1, e2] at r3
            exact r3
      · rw [set_g, if_neg (by intro e; subst e; exact hout 5 (by simp) hk)]
    · have hc : (far[s] == -1) = false := by simp [hu]
      simp [AW_seq, AW_reg, AW_regD, AW_block, AW_cond, AW_skip, AW_exit, AW_ret, AW_scp, condR_true, condR_false, AThen_normal, AThen_ret, AThen_exit, ABlock_normal, ABlock_ret, ABlock_exit, AScope_normal, AScope_ret, AScope_exit, RetK_ret, RetK_normal, retAV_one, retAV_two, retAV_three, retAV_nil, RG_nil, RG_op, RG_guard, gdR_tt, gdR_ff, gdR_tf, gdR_ft, gdR_un, RG_call, callQ_clo, contK_ap, opR_some, RD_nil, RD_op0, RD_op1, opD0_some, opD1_some, RD_call, callQD_clo, RD_guard, gdD_tt, gdD_ff, gdD_tf, gdD_ft, gdD_un, psh_nil, psh_cons, Apt_nil, Apt_nilT, Apt_true, Apt_false, Dis_def, runT_val, runT_rd, runT_wr, runT_new, runT_mv, ex, put_some, put_none, ev_t, ev_c, argF_zero, argF_succ, set_g, set_n, cells_v, cells_sl, cells_agg, cells_own, cells_ptr, cells_clo, cells_eptr, cells_mp, putc, exBslice, lfill, exField, exIdxV, exIdxP, exBox, exAlloc, exLoad, exStore, exFieldA, exIdxA, exLen, exPick, exUn, exBeq, exMM, exSeq, seqGo, exExt, binV, intOp, subc, AV.solid, S0, encI, encB, e77, e76, e10, hlt, e75', hgid, hys', hget, s3, s4, g5, hsf, hhf, hsI, hhI, hfl, hgs, hgh, hc]
      rw [wrap_in _ (by omega)]
      refine ⟨row.length - (j + 1), by omega, j + 1, far, q, by omega, rfl, ?_, ?_, ?_, ?_, b, hMm, ?_, ?_⟩
      · simp [put_some, encI]
      · simp [put_some, e76, encI]
      · simp [put_some, e10, encI]
      · simp [put_some, e75]
      · intro x hxm
        rw [List.take_add_one, List.getElem?_eq_getElem hlt] at hxm
        simp only [Option.toList_some, List.mem_append, List.mem_singleton] at hxm
        rcases hxm with hxm | hxm
        · exact hdone x hxm
        · have e : x.toNat = s := by omega
          have hv := b.val s hs
          rw [← rd_get hsf] at hv
          rw [e, ← rd_get hsf]; omega
      · refine ⟨by simp [put_some, s3], by simp [put_some, s4], g5, g10, ?_, by simp; omega⟩
        simpa [put_some] using rows.frame (by show S.n ≤ _; omega) (fun _ _ _ => rfl)
  · have : j = row.length := by omega
    subst this
    simp [AW_seq, AW_reg, AW_regD, AW_block, AW_cond, AW_skip, AW_exit, AW_ret, AW_scp, condR_true, condR_false, AThen_normal, AThen_ret, AThen_exit, ABlock_normal, ABlock_ret, ABlock_exit, AScope_normal, AScope_ret, AScope_exit, RetK_ret, RetK_normal, retAV_one, retAV_two, retAV_three, retAV_nil, RG_nil, RG_op, RG_guard, gdR_tt, gdR_ff, gdR_tf, gdR_ft, gdR_un, RG_call, callQ_clo, contK_ap, opR_some, RD_nil, RD_op0, RD_op1, opD0_some, opD1_some, RD_call, callQD_clo, RD_guard, gdD_tt, gdD_ff, gdD_tf, gdD_ft, gdD_un, psh_nil, psh_cons, Apt_nil, Apt_nilT, Apt_true, Apt_false, Dis_def, runT_val, runT_rd, runT_wr, runT_new, runT_mv, ex, put_some, put_none, ev_t, ev_c, argF_zero, argF_succ, set_g, set_n, cells_v, cells_sl, cells_agg, cells_own, cells_ptr, cells_clo, cells_eptr, cells_mp, putc, exBslice, lfill, exField, exIdxV, exIdxP, exBox, exAlloc, exLoad, exStore, exFieldA, exIdxA, exLen, exPick, exUn, exBeq, exMM, exSeq, seqGo, exExt, binV, intOp, subc, AV.solid, S0, encI, encB, e77, e76]
    refine hq _ _ far q b hMm (fun x hx => hdone x (by rw [List.take_length]; exact hx)) ?_
    refine ⟨by simp [put_some, s3], by simp [put_some, s4], g5, g10, ?_, by simp; omega⟩
    simpa [put_some] using rows.frame (by show S.n ≤ _; omega) (fun _ _ _ => rfl)
theorem far_rest {P : Program} {g : Gr} (ok : GrOk g) {back : List (List Int)} {bv : List AV} {far : List Int} {q : List Nat} (bo : BackOk g back) (hb : Bfs g far q) (hql : q.length ≤ g.n) {f : AF} {S : St} (st : St2 g back bv f S far q) :
    AW P c_far_rest (RetK [2] (FzK (encIs (farS g)))) f S := by
  have hn := ok.n
  have hgn : g.n = g.next.length := rfl
  simp [AW_seq, AW_reg, AW_regD, AW_block, AW_cond, AW_skip, AW_exit, AW_ret, AW_scp, condR_true, condR_false, AThen_normal, AThen_ret, AThen_exit, ABlock_normal, ABlock_ret, ABlock_exit, AScope_normal, AScope_ret, AScope_exit, RetK_ret, RetK_normal, retAV_one, retAV_two, retAV_three, retAV_nil, RG_nil, RG_op, RG_guard, gdR_tt, gdR_ff, gdR_tf, gdR_ft, gdR_un, RG_call, callQ_clo, contK_ap, opR_some, RD_nil, RD_op0, RD_op1, opD0_some, opD1_some, RD_call, callQD_clo, RD_guard, gdD_tt, gdD_ff, gdD_tf, gdD_ft, gdD_un, psh_nil, psh_cons, Apt_nil, Apt_nilT, Apt_true, Apt_false, Dis_def, runT_val, runT_rd, runT_wr, runT_new, runT_mv, ex, put_some, put_none, ev_t, ev_c, argF_zero, argF_succ, set_g, set_n, cells_v, cells_sl, cells_agg, cells_own, cells_ptr, cells_clo, cells_eptr, cells_mp, putc, exBslice, lfill, exField, exIdxV, exIdxP, exBox, exAlloc, exLoad, exStore, exFieldA, exIdxA, exLen, exPick, exUn, exBeq, exMM, exSeq, seqGo, exExt, binV, intOp, subc, AV.solid, S0, encI, encB, c_far_rest]
  have hcl := cntA_le far
  have hfl := hb.len
  refine AW_loop (farI2 g back bv) (2 * (g.n - cntA far) + q.length) ⟨far, q, hb, rfl, by omega, st⟩ ?_
  rintro m f S ⟨far, q, b, rfl, hm, ⟨s3, s4, g5, g10, rows, sn⟩⟩
  have hfl := b.len
  have hv0 : Vec S.g (f 5) 1 ((q.map Int.ofNat).map encI) := rows.row 0 (by simp) (by simp)
  cases q with
  | nil =>
    rcases hv0 with ⟨e5, _⟩ | ⟨id, off, ys, e5, hgid, hoff, hdrop⟩
    · simp [AW_seq, AW_reg, AW_regD, AW_block, AW_cond, AW_skip, AW_exit, AW_ret, AW_scp, condR_true, condR_false, AThen_normal, AThen_ret, AThen_exit, ABlock_normal, ABlock_ret, ABlock_exit, AScope_normal, AScope_ret, AScope_exit, RetK_ret, RetK_normal, retAV_one, retAV_two, retAV_three, retAV_nil, RG_nil, RG_op, RG_guard, gdR_tt, gdR_ff, gdR_tf, gdR_ft, gdR_un, RG_call, callQ_clo, contK_ap, opR_some, RD_nil, RD_op0, RD_op1, opD0_some, opD1_some, RD_call, callQD_clo, RD_guard, gdD_tt, gdD_ff, gdD_tf, gdD_ft, gdD_un, psh_nil, psh_cons, Apt_nil, Apt_nilT, Apt_true, Apt_false, Dis_def, runT_val, runT_rd, runT_wr, runT_new, runT_mv, ex, put_some, put_none, ev_t, ev_c, argF_zero, argF_succ, set_g, set_n, cells_v, cells_sl, cells_agg, cells_own, cells_ptr, cells_clo, cells_eptr, cells_mp, putc, exBslice, lfill, exField, exIdxV, exIdxP, exBox, exAlloc, exLoad, exStore, exFieldA, exIdxA, exLen, exPick, exUn, exBeq, exMM, exSeq, seqGo, exExt, binV, intOp, subc, AV.solid, S0, encI, encB, e5, s3]
      rw [farS_eq b.ok]
      exact (Vec.mk' (xs := far.map encI) g5 (by simp [hfl])).fz (enc := encI) (l := far) closed_I
    · have e5' : f 5 = .own id off 0 := by simpa using e5
      simp [AW_seq, AW_reg, AW_regD, AW_block, AW_cond, AW_skip, AW_exit, AW_ret, AW_scp, condR_true, condR_false, AThen_normal, AThen_ret, AThen_exit, ABlock_normal, ABlock_ret, ABlock_exit, AScope_normal, AScope_ret, AScope_exit, RetK_ret, RetK_normal, retAV_one, retAV_two, retAV_three, retAV_nil, RG_nil, RG_op, RG_guard, gdR_tt, gdR_ff, gdR_tf, gdR_ft, gdR_un, RG_call, callQ_clo, contK_ap, opR_some, RD_nil, RD_op0, RD_op1, opD0_some, opD1_some, RD_call, callQD_clo, RD_guard, gdD_tt, gdD_ff, gdD_tf, gdD_ft, gdD_un, psh_nil, psh_cons, Apt_nil, Apt_nilT, Apt_true, Apt_false, Dis_def, runT_val, runT_rd, runT_wr, runT_new, runT_mv, ex, put_some, put_none, ev_t, ev_c, argF_zero, argF_succ, set_g, set_n, cells_v, cells_sl, cells_agg, cells_own, cells_ptr, cells_clo, cells_eptr, cells_mp, putc, exBslice, lfill, exField, exIdxV, exIdxP, exBox, exAlloc, exLoad, exStore, exFieldA, exIdxA, exLen, exPick, exUn, exBeq, exMM, exSeq, seqGo, exExt, binV, intOp, subc, AV.solid, S0, encI, encB, e5', s3]
      rw [farS_eq b.ok]
      exact (Vec.mk' (xs := far.map encI) g5 (by simp [hfl])).fz (enc := encI) (l := far) closed_I
  | cons h q =>
    obtain ⟨id, off, ys, e5, hgid, hoff, hdrop⟩ : ∃ id off ys, f 5 = .own id off (q.length + 1) ∧ S.g id = some (.arr 1 ys) ∧ off ≤ ys.length ∧ ys.drop off = ((h :: q).map Int.ofNat).map encI := by
      rcases hv0 with ⟨_, he⟩ | ⟨id, off, ys, h1, h2, h3, h4⟩
      · simp at he
      · exact ⟨id, off, ys, by simpa using h1, h2, h3, h4⟩
    have hys : off + (q.length + 1) = ys.length := by have := congrArg List.length hdrop; simp at this; omega
    have hys' : off + (q.length + 1) ≤ ys.length := by omega
    have hget : ys[off]? = some (.v (.int .i64 h)) := by
      have : (ys.drop off)[0]? = some (encI h) := by rw [hdrop]; simp
      rw [List.getElem?_drop] at this; simpa [encI] using this
    have hh : h < g.n := (b.qa h (by simp)).1
    have hhI : (h : Int) < g.n := by omega
    have hbvl : bv.length = g.n := by have := rows.len; have := bo.bl; simp at *; omega
    have hb1 : h < bv.length := by omega
    have hb2 : h < back.length := by rw [bo.bl]; exact hh
    have hgbv : bv[h]? = some bv[h] := List.getElem?_eq_getElem hb1
    have hpos : (0 : Int) < (q.length : Int) + 1 := by omega
    have hvrow : Vec S.g bv[h] 1 ((back[h]).map encI) := rows.row (h + 1) (by simpa using hb1) (by simpa using hb2)
    have hrb : back[h]? = some back[h] := List.getElem?_eq_getElem hb2
    have fin : ∀ (f' : AF) (S' : St) (far' : List Int) (q' : List Nat), Bfs g far' (h :: q') → 2 * (g.n - cntA far') + q'.length + 1 ≤ 2 * (g.n - cntA far) + (q.length + 1) → (∀ x ∈ back[h], 0 ≤ rd far' x.toNat) → St2 g back bv f' S' far' (h :: q') →
        ABlock 5 (AThen (AW P (.reg none [⟨(some 67), .mv (.t 5), none, none⟩, ⟨(some 68), .slc 1 (.t 67) (some (.c (.v (.int .i64 1)))) none, none, none⟩, ⟨(some 5), .mv (.t 68), none, none⟩]) (AThen (INext (farI2 g back bv) (2 * (g.n - cntA far) + (q.length + 1))) (ABlock 4 (AThen (AW P (.seq (.reg none [⟨(some 99), .mv (.t 3), none, none⟩, ⟨(some 2), .mv (.t 99), none, none⟩]) .ret) (RetK [2] (FzK (encIs (farS g))))) (RetK [2] (FzK (encIs (farS g)))))))) (AThen (INext (farI2 g back bv) (2 * (g.n - cntA far) + (q.length + 1))) (ABlock 4 (AThen (AW P (.seq (.reg none [⟨(some 99), .mv (.t 3), none, none⟩, ⟨(some 2), .mv (.t 99), none, none⟩]) .ret) (RetK [2] (FzK (encIs (farS g))))) (RetK [2] (FzK (encIs (farS g)))))))) .normal f' S' := by
      rintro f' S' far' q' b' hM' hdone ⟨t3, t4, h5, h10, rows', tn⟩
      have hv0 : Vec S'.g (f' 5) 1 (((h :: q').map Int.ofNat).map encI) := rows'.row 0 (by simp) (by simp)
      obtain ⟨id, off, ys, e5, hgid, hoff, hdrop⟩ : ∃ id off ys, f' 5 = .own id off (q'.length + 1) ∧ S'.g id = some (.arr 1 ys) ∧ off ≤ ys.length ∧ ys.drop off = ((h :: q').map Int.ofNat).map encI := by
        rcases hv0 with ⟨_, he⟩ | ⟨id, off, ys, h1, h2, h3, h4⟩
        · simp at he
        · exact ⟨id, off, ys, by simpa using h1, h2, h3, h4⟩
      have hys : off + (q'.length + 1) = ys.length := by have := congrArg List.length hdrop; simp at this; omega
      simp [AW_seq, AW_reg, AW_regD, AW_block, AW_cond, AW_skip, AW_exit, AW_ret, AW_scp, condR_true, condR_false, AThen_normal, AThen_ret, AThen_exit, ABlock_normal, ABlock_ret, ABlock_exit, AScope_normal, AScope_ret, AScope_exit, RetK_ret, RetK_normal, retAV_one, retAV_two, retAV_three, retAV_nil, RG_nil, RG_op, RG_guard, gdR_tt, gdR_ff, gdR_tf, gdR_ft, gdR_un, RG_call, callQ_clo, contK_ap, opR_some, RD_nil, RD_op0, RD_op1, opD0_some, opD1_some, RD_call, callQD_clo, RD_guard, gdD_tt, gdD_ff, gdD_tf, gdD_ft, gdD_un, psh_nil, psh_cons, Apt_nil, Apt_nilT, Apt_true, Apt_false, Dis_def, runT_val, runT_rd, runT_wr, runT_new, runT_mv, ex, put_some, put_none, ev_t, ev_c, argF_zero, argF_succ, set_g, set_n, cells_v, cells_sl, cells_agg, cells_own, cells_ptr, cells_clo, cells_eptr, cells_mp, putc, exBslice, lfill, exField, exIdxV, exIdxP, exBox, exAlloc, exLoad, exStore, exFieldA, exIdxA, exLen, exPick, exUn, exBeq, exMM, exSeq, seqGo, exExt, binV, intOp, subc, AV.solid, S0, encI, encB, e5, exSlc, bnd, hgid]
      refine ⟨2 * (g.n - cntA far') + q'.length, by omega, far', q', b'.pop fun s hs he => ?_, rfl, by simp at hm; omega, ⟨by simp [put_some, t3], by simp [put_some, t4], h5, h10, ?_, by simp; omega⟩⟩
      · have := bo.bc s h hs hh he
        simp only [List.getD_eq_getElem?_getD, hrb, Option.getD_some] at this
        simpa using hdone _ this
      · have hid := rows'.out (f' 5) (by simp) id (by rw [e5]; simp [AV.ids])
        have r2 := rows'.upd (t := 0) (by simp) (g' := S'.g) (n' := S'.n + 3) (v := .own id (off + 1) q'.length) (l := q'.map Int.ofNat) (.inr ⟨id, off + 1, ys, by simp, hgid, by omega, by rw [← List.drop_drop, hdrop]; simp⟩) (by omega) (fun i hi => by
          simp only [AV.ids, List.mem_singleton] at hi
          subst hi
          exact ⟨by omega, hid.2, .inl (by show _ ∈ (f' 5).ids; rw [e5]; simp [AV.ids])⟩) (fun i _ _ _ => rfl)
        simpa [put_some] using r2
    rcases hvrow with ⟨eb, he⟩ | ⟨id2, off2, ys2, eb, hg2, ho2, hd2⟩
    · have he' : back[h] = [] := by simpa using he
      have hl0 : back[h].length = 0 := by rw [he']; rfl
      simp [AW_seq, AW_reg, AW_regD, AW_block, AW_cond, AW_skip, AW_exit, AW_ret, AW_scp, condR_true, condR_false, AThen_normal, AThen_ret, AThen_exit, ABlock_normal, ABlock_ret, ABlock_exit, AScope_normal, AScope_ret, AScope_exit, RetK_ret, RetK_normal, retAV_one, retAV_two, retAV_three, retAV_nil, RG_nil, RG_op, RG_guard, gdR_tt, gdR_ff, gdR_tf, gdR_ft, gdR_un, RG_call, callQ_clo, contK_ap, opR_some, RD_nil, RD_op0, RD_op1, opD0_some, opD1_some, RD_call, callQD_clo, RD_guard, gdD_tt, gdD_ff, gdD_tf, gdD_ft, gdD_un, psh_nil, psh_cons, Apt_nil, Apt_nilT, Apt_true, Apt_false, Dis_def, runT_val, runT_rd, runT_wr, runT_new, runT_mv, ex, put_some, put_none, ev_t, ev_c, argF_zero, argF_succ, set_g, set_n, cells_v, cells_sl, cells_agg, cells_own, cells_ptr, cells_clo, cells_eptr, cells_mp, putc, exBslice, lfill, exField, exIdxV, exIdxP, exBox, exAlloc, exLoad, exStore, exFieldA, exIdxA, exLen, exPick, exUn, exBeq, exMM, exSeq, seqGo, exExt, binV, intOp, subc, AV.solid, S0, encI, encB, e5, hgid, hys', hget, s4, g10, hhI, hbvl, hgbv, eb, hpos, hh]
      refine far_back ok bo hh hrb (M := 2 * (g.n - cntA far) + (q.length + 1)) (by simp at hm; omega) ⟨0, far, q, by omega, by omega, ?_, ?_, ?_, ?_, b, by omega, by simp, ⟨?_, ?_, g5, g10, ?_, by simp⟩⟩ fin
      · simp [put_some, encI]
      · simp [put_some, encI, hl0]
      · simp [put_some, encI]
      · simp [put_some, hgbv, eb]
      · simp [put_some, s3]
      · simp [put_some, s4]
      · have := rows.frame (n' := S.n + 3 + 4 + 6) (g' := S.g) (by omega) (fun k _ hk => rfl)
        simpa [put_some] using this
    · simp [AW_seq, AW_reg, AW_regD, AW_block, AW_cond, AW_skip, AW_exit, AW_ret, AW_scp, condR_true, condR_false, AThen_normal, AThen_ret, AThen_exit, ABlock_normal, ABlock_ret, ABlock_exit, AScope_normal, AScope_ret, AScope_exit, RetK_ret, RetK_normal, retAV_one, retAV_two, retAV_three, retAV_nil, RG_nil, RG_op, RG_guard, gdR_tt, gdR_ff, gdR_tf, gdR_ft, gdR_un, RG_call, callQ_clo, contK_ap, opR_some, RD_nil, RD_op0, RD_op1, opD0_some, opD1_some, RD_call, callQD_clo, RD_guard, gdD_tt, gdD_ff, gdD_tf, gdD_ft, gdD_un, psh_nil, psh_cons, Apt_nil, Apt_nilT, Apt_true, Apt_false, Dis_def, runT_val, runT_rd, runT_wr, runT_new, runT_mv, ex, put_some, put_none, ev_t, ev_c, argF_zero, argF_succ, set_g, set_n, cells_v, cells_sl, cells_agg, cells_own, cells_ptr, cells_clo, cells_eptr, cells_mp, putc, exBslice, lfill, exField, exIdxV, exIdxP, exBox, exAlloc, exLoad, exStore, exFieldA, exIdxA, exLen, exPick, exUn, exBeq, exMM, exSeq, seqGo, exExt, binV, intOp, subc, AV.solid, S0, encI, encB, e5, hgid, hys', hget, s4, g10, hhI, hbvl, hgbv, eb, hpos, hh]
      refine far_back ok bo hh hrb (M := 2 * (g.n - cntA far) + (q.length + 1)) (by simp at hm; omega) ⟨0, far, q, by omega, by omega, ?_, ?_, ?_, ?_, b, by omega, by simp, ⟨?_, ?_, g5, g10, ?_, by simp⟩⟩ fin
      · simp [put_some, encI]
      · simp [put_some, encI]
      · simp [put_some, encI]
      · simp [put_some, hgbv, eb]
      · simp [put_some, s3]
      · simp [put_some, s4]
      · have := rows.frame (n' := S.n + 3 + 4 + 6) (g' := S.g) (by omega) (fun k _ hk => rfl)
        simpa [put_some] using this
theorem path_graph_far_body (P : Program) (g : Gr) (ok : GrOk g) : AW P c_path_graph_far (RetK [2] (FzK (encIs (farS g)))) (argF [encGr g]) S0 := by
  have h1 := ok.n
  have hn : g.n = g.next.length := rfl
  have q1 : (g.next.length : Int) ≤ 9223372036854775807 := by omega
  have q2 : 8 * (g.next.length : Int) ≤ 281474976710656 := by omega
  have q3 : 24 * (g.next.length : Int) ≤ 281474976710656 := by omega
  simp [AW_seq, AW_reg, AW_regD, AW_block, AW_cond, AW_skip, AW_exit, AW_ret, AW_scp, condR_true, condR_false, AThen_normal, AThen_ret, AThen_exit, ABlock_normal, ABlock_ret, ABlock_exit, AScope_normal, AScope_ret, AScope_exit, RetK_ret, RetK_normal, retAV_one, retAV_two, retAV_three, retAV_nil, RG_nil, RG_op, RG_guard, gdR_tt, gdR_ff, gdR_tf, gdR_ft, gdR_un, RG_call, callQ_clo, contK_ap, opR_some, RD_nil, RD_op0, RD_op1, opD0_some, opD1_some, RD_call, callQD_clo, RD_guard, gdD_tt, gdD_ff, gdD_tf, gdD_ft, gdD_un, psh_nil, psh_cons, Apt_nil, Apt_nilT, Apt_true, Apt_false, Dis_def, runT_val, runT_rd, runT_wr, runT_new, runT_mv, ex, put_some, put_none, ev_t, ev_c, argF_zero, argF_succ, set_g, set_n, cells_v, cells_sl, cells_agg, cells_own, cells_ptr, cells_clo, cells_eptr, cells_mp, putc, exBslice, lfill, exField, exIdxV, exIdxP, exBox, exAlloc, exLoad, exStore, exFieldA, exIdxA, exLen, exPick, exUn, exBeq, exMM, exSeq, seqGo, exExt, binV, intOp, subc, AV.solid, S0, encI, encB, c_path_graph_far, encGr, encIss, encBs, exMks, q1, q2, q3]
  refine AW_loop (farI1 g) g.n ?_ ?_
  · refine ⟨0, List.replicate g.n 0, [], List.replicate g.n [], by omega, by omega, ?_, ?_, ?_, ?_, ?_⟩
    · simp [put_some, encI]
    · simp [put_some, encI, hn]
    · simp [put_some, encIss]
    · refine ⟨by simp, by omega, by simp, by simp, ?_, by omega, by simp, ?_⟩
      · intro t x ht hx
        simp [List.getD_eq_getElem?_getD, ht] at hx
      · intro t ht
        simp [List.getD_eq_getElem?_getD, ht]
    · refine ⟨by simp [put_some], by simp [put_some, hn], by simp [put_some, hn], ?_, ?_, ⟨List.replicate g.n (.sl true []), ?_, ?_⟩, by simp⟩
      · simp [set_g, encGr, encIss, encBs, encI]
      · simp [set_g, encI, hn]
      · simp [set_g, hn]
      · simp only [put_some]
        simp only [Nat.reduceEqDiff, if_false, if_true]
        exact Rows.init (g.n + 1)
  · rintro m f S ⟨i, far, wl, back, hi, rfl, e24, e23, e22, b, st⟩
    obtain ⟨s1, s3, s4, g0, g5, ⟨bv, g10, rows⟩, sn⟩ := st
    have hfl := b.fl
    have hflen := ok.fin
    by_cases hlt : i < g.n
    · have hlt2 : i < g.next.length := hlt
      have hlf : i < g.fin.length := by omega
      have hfar : i < far.length := by omega
      have hltI : (i : Int) < g.n := by omega
      have hend : g.isEnd i = g.fin[i] := by simp [Gr.isEnd, List.getD_eq_getElem?_getD, List.getElem?_eq_getElem hlf]
      cases hb : g.fin[i] with
      | true =>
        simp [AW_seq, AW_reg, AW_regD, AW_block, AW_cond, AW_skip, AW_exit, AW_ret, AW_scp, condR_true, condR_false, AThen_normal, AThen_ret, AThen_exit, ABlock_normal, ABlock_ret, ABlock_exit, AScope_normal, AScope_ret, AScope_exit, RetK_ret, RetK_normal, retAV_one, retAV_two, retAV_three, retAV_nil, RG_nil, RG_op, RG_guard, gdR_tt, gdR_ff, gdR_tf, gdR_ft, gdR_un, RG_call, callQ_clo, contK_ap, opR_some, RD_nil, RD_op0, RD_op1, opD0_some, opD1_some, RD_call, callQD_clo, RD_guard, gdD_tt, gdD_ff, gdD_tf, gdD_ft, gdD_un, psh_nil, psh_cons, Apt_nil, Apt_nilT, Apt_true, Apt_false, Dis_def, runT_val, runT_rd, runT_wr, runT_new, runT_mv, ex, put_some, put_none, ev_t, ev_c, argF_zero, argF_succ, set_g, set_n, cells_v, cells_sl, cells_agg, cells_own, cells_ptr, cells_clo, cells_eptr, cells_mp, putc, exBslice, lfill, exField, exIdxV, exIdxP, exBox, exAlloc, exLoad, exStore, exFieldA, exIdxA, exLen, exPick, exUn, exBeq, exMM, exSeq, seqGo, exExt, binV, intOp, subc, AV.solid, S0, encI, encB, e24, e23, e22, s1, s3, s4, g0, g5, encIss, encGr, encBs, hlt, hlt2, hlf, hfar, hltI, hfl, hb, encIs]
        have hfin : g.isEnd i = true := by rw [hend]; exact hb
        have hv0 : Vec S.g (f 5) 1 (wl.map encI) := rows.row 0 (by simp) (by simp)
        have hwl : wl.length ≤ i := by
          rw [b.wv, List.length_map]
          exact Nat.le_trans (List.length_filter_le _ _) (by simp)
        rw [Vec.app (xs := wl.map encI) (hv0.frame (fun k hk => ?_)) (cells_I _) (by simp [AV.cells]) (appOk8 (by rw [List.length_map]; omega))]
        · simp [AW_seq, AW_reg, AW_regD, AW_block, AW_cond, AW_skip, AW_exit, AW_ret, AW_scp, condR_true, condR_false, AThen_normal, AThen_ret, AThen_exit, ABlock_normal, ABlock_ret, ABlock_exit, AScope_normal, AScope_ret, AScope_exit, RetK_ret, RetK_normal, retAV_one, retAV_two, retAV_three, retAV_nil, RG_nil, RG_op, RG_guard, gdR_tt, gdR_ff, gdR_tf, gdR_ft, gdR_un, RG_call, callQ_clo, contK_ap, opR_some, RD_nil, RD_op0, RD_op1, opD0_some, opD1_some, RD_call, callQD_clo, RD_guard, gdD_tt, gdD_ff, gdD_tf, gdD_ft, gdD_un, psh_nil, psh_cons, Apt_nil, Apt_nilT, Apt_true, Apt_false, Dis_def, runT_val, runT_rd, runT_wr, runT_new, runT_mv, ex, put_some, put_none, ev_t, ev_c, argF_zero, argF_succ, set_g, set_n, cells_v, cells_sl, cells_agg, cells_own, cells_ptr, cells_clo, cells_eptr, cells_mp, putc, exBslice, lfill, exField, exIdxV, exIdxP, exBox, exAlloc, exLoad, exStore, exFieldA, exIdxA, exLen, exPick, exUn, exBeq, exMM, exSeq, seqGo, exExt, binV, intOp, subc, AV.solid, S0, encI, encB, e24, e23, e22, s1, s3, s4, g0, g5, encIss, encGr, encBs]
          have r2 := rows.app (t := 0) (m := S.n + 1 + 5 + 4 + 5 + 4 + 5) (nid := S.n + 1 + 5 + 4 + 5 + 4 + 3) (by simp) (by simp) (i : Int) (by omega) (by omega) (by simp)
          have hout : ∀ k ∈ [0, 5, 10], k ∉ (f 5).ids := fun k hk h6 => (rows.out (f 5) (by simp) k h6).2 hk
          refine far_in ok (row := g.next[i]) (far := far.set i 0) (wl := wl ++ [(i : Int)]) (back := back) (List.getElem?_eq_getElem hlt2) ⟨0, back, by omega, by omega, ?_, ?_, ?_, ?_, ?_, ?_, ?_, ?_, ?_⟩ ?_
          · simp [put_some, encI]
          · simp [put_some, encI]
          · simp [put_some, encIs]
          · simp [put_some, encI]
          · simp [put_some, e24, encI]
          · simp [put_some, e23, encI]
          · simp [put_some, e22, encIss]
          · refine ⟨by simpa using hfl, fun u hu => ?_, ?_, b.bl, b.bs, b.bc, by simp, b.bn⟩
            · rw [rd_set hfar]
              split
              · rename_i e; subst e; rw [hfin]; rfl
              · exact b.fv u (by omega)
            · rw [List.range_succ, List.filter_append, List.map_append, ← b.wv]; simp [hfin]
          · have hwo : ∀ (n1 n2 n3 k : Nat) (b1 b2 : Option Blk), k ≠ 5 → (St.without ⟨n1, (St.set ⟨n2, (St.set ⟨n3, S.g⟩ 5 b1).g⟩ 5 b2).g⟩ (f 5)).g k = (St.without ⟨n1, S.g⟩ (f 5)).g k := by
              intro n1 n2 n3 k b1 b2 hk
              cases f 5 <;> simp [St.without, set_g, hk]
            refine ⟨by simp [put_some, s1], by simp [put_some, s3], by simp [put_some, s4], ?_, ?_, ⟨bv, ?_, ?_⟩, by simp [without_n]⟩
            · simp only [set_g]
              rw [if_neg (by omega), without_g 0 (hout 0 (by simp))]
              simp [set_g, g0]
            · simp only [set_g]
              rw [if_neg (by omega), without_g 5 (hout 5 (by simp))]
              simp [set_g, List.map_set, encI]
            · simp only [set_g]
              rw [if_neg (by omega), without_g 10 (hout 10 (by simp))]
              simp [set_g, g10]
            · have r3 := r2.frame (n' := S.n + 1 + 5 + 4 + 5 + 4 + 5 + 3) (g' := fun k => if k = S.n + 1 + 5 + 4 + 5 + 4 + 3 then some (Blk.arr 1 (List.map encI wl ++ [AV.v (Value.int IntKind.i64 ↑i)])) else (St.without ⟨S.n + 1 + 5 + 4 + 5 + 4 + 5, (St.set ⟨S.n + 1 + 5 + 4 + 5 + 4, (St.set ⟨S.n + 1 + 5 + 4, S.g⟩ 5 (some (Blk.arr 1 ((List.map encI far).set i (AV.v (Value.int IntKind.i64 (-1))))))).g⟩ 5 (some (Blk.arr 1 ((List.map encI far).set i (AV.v (Value.int IntKind.i64 0)))))).g⟩ (f 5)).g k) (by omega) (fun k _ hk => by
                simp only [set_g]
                by_cases hkn : k = S.n + 1 + 5 + 4 + 5 + 4 + 3
                · rw [if_pos hkn, if_pos hkn]; simp [encI]
                · rw [if_neg hkn, if_neg hkn, hwo _ _ _ _ _ _ (by simp at hk; omega)]; rfl)
              simp only [put_some, without_n]
              simp only [Nat.reduceEqDiff, if_false, if_true]
              have e1 : (f 5 :: bv).set 0 (AV.own (S.n + 1 + 5 + 4 + 5 + 4 + 3) 0 ((wl :: back)[0].length + 1)) = AV.own (S.n + 1 + 5 + 4 + 5 + 4 + 3) 0 (wl.length + 1) :: bv := by simp
              have e2 : (wl :: back).set 0 ((wl :: back)[0] ++ [(i : Int)]) = (wl ++ [(i : Int)]) :: back := by simp
              rw [e1, e2] at r3
              first | exact r3 | simpa using r3
          · intro f' S' back' k24 k23 k22 b' st'
            simp [AW_seq, AW_reg, AW_regD, AW_block, AW_cond, AW_skip, AW_exit, AW_ret, AW_scp, condR_true, condR_false, AThen_normal, AThen_ret, AThen_exit, ABlock_normal, ABlock_ret, ABlock_exit, AScope_normal, AScope_ret, AScope_exit, RetK_ret, RetK_normal, retAV_one, retAV_two, retAV_three, retAV_nil, RG_nil, RG_op, RG_guard, gdR_tt, gdR_ff, gdR_tf, gdR_ft, gdR_un, RG_call, callQ_clo, contK_ap, opR_some, RD_nil, RD_op0, RD_op1, opD0_some, opD1_some, RD_call, callQD_clo, RD_guard, gdD_tt, gdD_ff, gdD_tf, gdD_ft, gdD_un, psh_nil, psh_cons, Apt_nil, Apt_nilT, Apt_true, Apt_false, Dis_def, runT_val, runT_rd, runT_wr, runT_new, runT_mv, ex, put_some, put_none, ev_t, ev_c, argF_zero, argF_succ, set_g, set_n, cells_v, cells_sl, cells_agg, cells_own, cells_ptr, cells_clo, cells_eptr, cells_mp, putc, exBslice, lfill, exField, exIdxV, exIdxP, exBox, exAlloc, exLoad, exStore, exFieldA, exIdxA, exLen, exPick, exUn, exBeq, exMM, exSeq, seqGo, exExt, binV, intOp, subc, AV.solid, S0, encI, encB, k24]
            rw [wrap_in _ (by omega)]
            have hrow : (g.next[i]).length ≤ 400 := ok.rows _ (List.getElem_mem hlt2)
            refine ⟨g.n - (i + 1), by omega, i + 1, far.set i 0, wl ++ [(i : Int)], back', by omega, rfl, ?_, ?_, ?_, b'.next (List.getElem?_eq_getElem hlt2) hrow, ?_⟩
            · simp [put_some, encI]
            · simp [put_some, k23]
            · simp [put_some, k22]
            · obtain ⟨t1, t3, t4, h0, h5, ⟨bv', h10', rows'⟩, tn⟩ := st'
              refine ⟨by simp [put_some, t1], by simp [put_some, t3], by simp [put_some, t4], h0, h5, ⟨bv', h10', ?_⟩, by simp; omega⟩
              simpa [put_some] using rows'.frame (n' := S'.n + 2) (by omega) (fun k _ hk => rfl)
        · simp only [set_g]
          have hk5 : k ≠ 5 := by intro e; subst e; exact (rows.out (f 5) (by simp) 5 hk).2 (by simp)
          simp [hk5]
      | false =>
        simp [AW_seq, AW_reg, AW_regD, AW_block, AW_cond, AW_skip, AW_exit, AW_ret, AW_scp, condR_true, condR_false, AThen_normal, AThen_ret, AThen_exit, ABlock_normal, ABlock_ret, ABlock_exit, AScope_normal, AScope_ret, AScope_exit, RetK_ret, RetK_normal, retAV_one, retAV_two, retAV_three, retAV_nil, RG_nil, RG_op, RG_guard, gdR_tt, gdR_ff, gdR_tf, gdR_ft, gdR_un, RG_call, callQ_clo, contK_ap, opR_some, RD_nil, RD_op0, RD_op1, opD0_some, opD1_some, RD_call, callQD_clo, RD_guard, gdD_tt, gdD_ff, gdD_tf, gdD_ft, gdD_un, psh_nil, psh_cons, Apt_nil, Apt_nilT, Apt_true, Apt_false, Dis_def, runT_val, runT_rd, runT_wr, runT_new, runT_mv, ex, put_some, put_none, ev_t, ev_c, argF_zero, argF_succ, set_g, set_n, cells_v, cells_sl, cells_agg, cells_own, cells_ptr, cells_clo, cells_eptr, cells_mp, putc, exBslice, lfill, exField, exIdxV, exIdxP, exBox, exAlloc, exLoad, exStore, exFieldA, exIdxA, exLen, exPick, exUn, exBeq, exMM, exSeq, seqGo, exExt, binV, intOp, subc, AV.solid, S0, encI, encB, e24, e23, e22, s1, s3, s4, g0, g5, encIss, encGr, encBs, hlt, hlt2, hlf, hfar, hltI, hfl, hb, encIs]
        have hfin : g.isEnd i = false := by rw [hend]; exact hb
        refine far_in ok (row := g.next[i]) (far := far.set i (-1)) (wl := wl) (back := back) (List.getElem?_eq_getElem hlt2) ⟨0, back, by omega, by omega, ?_, ?_, ?_, ?_, ?_, ?_, ?_, ?_, ?_⟩ ?_
        · simp [put_some, encI]
        · simp [put_some, encI]
        · simp [put_some, encIs]
        · simp [put_some, encI]
        · simp [put_some, e24, encI]
        · simp [put_some, e23, encI]
        · simp [put_some, e22, encIss]
        · refine ⟨by simpa using hfl, fun u hu => ?_, ?_, b.bl, b.bs, b.bc, by simp, b.bn⟩
          · rw [rd_set hfar]
            split
            · rename_i e; subst e; rw [hfin]; rfl
            · exact b.fv u (by omega)
          · rw [List.range_succ, List.filter_append, List.map_append, ← b.wv]; simp [hfin]
        · refine ⟨by simp [put_some, s1], by simp [put_some, s3], by simp [put_some, s4], by simp [set_g, g0], by simp [set_g, encI, List.map_set], ⟨bv, by simp [set_g, g10], ?_⟩, by simp [set_n]⟩
          simpa [put_some] using rows.frame (n' := S.n + 1 + 5 + 4 + 5 + 3) (by omega) (fun k _ hk => by simp only [set_g]; rw [if_neg (by intro e; subst e; simp at hk)])
        · intro f' S' back' k24 k23 k22 b' st'
          simp [AW_seq, AW_reg, AW_regD, AW_block, AW_cond, AW_skip, AW_exit, AW_ret, AW_scp, condR_true, condR_false, AThen_normal, AThen_ret, AThen_exit, ABlock_normal, ABlock_ret, ABlock_exit, AScope_normal, AScope_ret, AScope_exit, RetK_ret, RetK_normal, retAV_one, retAV_two, retAV_three, retAV_nil, RG_nil, RG_op, RG_guard, gdR_tt, gdR_ff, gdR_tf, gdR_ft, gdR_un, RG_call, callQ_clo, contK_ap, opR_some, RD_nil, RD_op0, RD_op1, opD0_some, opD1_some, RD_call, callQD_clo, RD_guard, gdD_tt, gdD_ff, gdD_tf, gdD_ft, gdD_un, psh_nil, psh_cons, Apt_nil, Apt_nilT, Apt_true, Apt_false, Dis_def, runT_val, runT_rd, runT_wr, runT_new, runT_mv, ex, put_some, put_none, ev_t, ev_c, argF_zero, argF_succ, set_g, set_n, cells_v, cells_sl, cells_agg, cells_own, cells_ptr, cells_clo, cells_eptr, cells_mp, putc, exBslice, lfill, exField, exIdxV, exIdxP, exBox, exAlloc, exLoad, exStore, exFieldA, exIdxA, exLen, exPick, exUn, exBeq, exMM, exSeq, seqGo, exExt, binV, intOp, subc, AV.solid, S0, encI, encB, k24]
          rw [wrap_in _ (by omega)]
          have hrow : (g.next[i]).length ≤ 400 := ok.rows _ (List.getElem_mem hlt2)
          refine ⟨g.n - (i + 1), by omega, i + 1, far.set i (-1), wl, back', by omega, rfl, ?_, ?_, ?_, b'.next (List.getElem?_eq_getElem hlt2) hrow, ?_⟩
          · simp [put_some, encI]
          · simp [put_some, k23]
          · simp [put_some, k22]
          · obtain ⟨t1, t3, t4, h0, h5, ⟨bv', h10', rows'⟩, tn⟩ := st'
            refine ⟨by simp [put_some, t1], by simp [put_some, t3], by simp [put_some, t4], h0, h5, ⟨bv', h10', ?_⟩, by simp; omega⟩
            simpa [put_some] using rows'.frame (n' := S'.n + 2) (by omega) (fun k _ hk => rfl)
    · have hin : i = g.n := by omega
      subst hin
      simp [AW_seq, AW_reg, AW_regD, AW_block, AW_cond, AW_skip, AW_exit, AW_ret, AW_scp, condR_true, condR_false, AThen_normal, AThen_ret, AThen_exit, ABlock_normal, ABlock_ret, ABlock_exit, AScope_normal, AScope_ret, AScope_exit, RetK_ret, RetK_normal, retAV_one, retAV_two, retAV_three, retAV_nil, RG_nil, RG_op, RG_guard, gdR_tt, gdR_ff, gdR_tf, gdR_ft, gdR_un, RG_call, callQ_clo, contK_ap, opR_some, RD_nil, RD_op0, RD_op1, opD0_some, opD1_some, RD_call, callQD_clo, RD_guard, gdD_tt, gdD_ff, gdD_tf, gdD_ft, gdD_un, psh_nil, psh_cons, Apt_nil, Apt_nilT, Apt_true, Apt_false, Dis_def, runT_val, runT_rd, runT_wr, runT_new, runT_mv, ex, put_some, put_none, ev_t, ev_c, argF_zero, argF_succ, set_g, set_n, cells_v, cells_sl, cells_agg, cells_own, cells_ptr, cells_clo, cells_eptr, cells_mp, putc, exBslice, lfill, exField, exIdxV, exIdxP, exBox, exAlloc, exLoad, exStore, exFieldA, exIdxA, exLen, exPick, exUn, exBeq, exMM, exSeq, seqGo, exExt, binV, intOp, subc, AV.solid, S0, encI, encB, e24, e23, e22]
      refine far_rest ok (back := back) (bv := bv) (far := far) (q := (List.range g.n).filter g.isEnd) ⟨b.bl, b.bs, fun s t hs ht he => b.bc s t ht hs he, fun t ht => ?_⟩ ?_ ?_ ⟨?_, ?_, g5, g10, ?_, ?_⟩
      · have := b.bn t ht; omega
      · refine Start.bfs' ⟨hfl, fun s hs => b.fv s hs, fun s => by simp [List.mem_filter]⟩
      · exact Nat.le_trans (List.length_filter_le _ _) (by simp)
      · simp [put_some, s3]
      · simp [put_some, s4]
      · have := rows.frame (n' := S.n + 1) (g' := S.g) (by omega) (fun k _ hk => rfl)
        rw [b.wv] at this
        simpa [put_some] using this
      · simp; omega
end Go.Rf
