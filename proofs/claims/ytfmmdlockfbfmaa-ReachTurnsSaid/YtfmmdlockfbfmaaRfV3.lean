import Derived.Test.YtfmmdlockfbfmaaRfV2
import Derived.Test.YtfmmdlockfbfmaaRfR17
/- Own work: the walks of layer 11's statements. -/
set_option linter.unusedVariables false
set_option linter.unusedSimpArgs false
namespace Go.Rf
open Go.RowKit

def c_rt_in (f_reach_Matches : FuncId) : AC :=
  (.block 2 (.loop (.seq (.seq (.reg none [
        ⟨(some 48), .mv (.t 11), none, none⟩,
        ⟨(some 49), .mv (.t 9), none, none⟩,
        ⟨(some 50), .len (.t 49), none, none⟩,
        ⟨(some 51), .bin .lss (.t 48) (.t 50), none, none⟩])
       (.cond (.t 51) .skip (.exit 2)))
       (.seq (.block 3 (.seq (.reg (some []) [
         ⟨(some 54), .mv (.t 9), none, none⟩,
         ⟨(some 55), .mv (.t 11), none, none⟩,
         ⟨(some 56), .idxA 1 (.t 54) (.t 55), none, none⟩,
         ⟨(some 57), .load none (.t 56), none, none⟩,
         ⟨(some 58), .mv (.t 8), none, none⟩,
         ⟨(some 59), .bin .lss (.t 57) (.t 58), none, none⟩,
         ⟨(some 60), .mv (.t 59), none, none⟩,
         ⟨(some 61), .mv (.t 9), (some (60, false)), none⟩,
         ⟨(some 62), .mv (.t 11), (some (60, false)), none⟩,
         ⟨(some 63), .idxA 1 (.t 61) (.t 62), (some (60, false)), none⟩,
         ⟨(some 64), .load none (.t 63), (some (60, false)), none⟩,
         ⟨(some 65), .mv (.t 7), (some (60, false)), none⟩,
         ⟨(some 66), .bin .gtr (.t 64) (.t 65), (some (60, false)), none⟩,
         ⟨(some 67), .pick (.t 60) (.c (.v (.bool true))) (.t 66), none, none⟩,
         ⟨(some 68), .mv (.t 67), none, none⟩,
         ⟨(some 69), .mv (.t 10), (some (68, false)), none⟩,
         ⟨(some 70), .mv (.t 10), (some (68, false)), none⟩,
         ⟨(some 71), .len (.t 70), (some (68, false)), none⟩,
         ⟨(some 72), .bin .sub (.t 71) (.c (.v (.int .i64 1))), (some (68, false)), none⟩,
         ⟨(some 73), .mv (.t 11), (some (68, false)), none⟩,
         ⟨(some 74), .bin .sub (.t 72) (.t 73), (some (68, false)), none⟩,
         ⟨(some 75), .idxA 1 (.t 69) (.t 74), (some (68, false)), none⟩,
         ⟨(some 76), .load none (.t 75), (some (68, false)), none⟩,
         ⟨(some 77), .mv (.t 7), (some (68, false)), none⟩,
         ⟨(some 78), .mv (.t 9), (some (68, false)), none⟩,
         ⟨(some 79), .mv (.t 11), (some (68, false)), none⟩,
         ⟨(some 80), .idxA 1 (.t 78) (.t 79), (some (68, false)), none⟩,
         ⟨(some 81), .load none (.t 80), (some (68, false)), none⟩,
         ⟨(some 82), .bin .sub (.t 77) (.t 81), (some (68, false)), none⟩,
         ⟨(some 83), .bin .neq (.t 76) (.t 82), (some (68, false)), none⟩,
         ⟨(some 84), .pick (.t 68) (.c (.v (.bool true))) (.t 83), none, none⟩,
         ⟨(some 85), .mv (.t 84), none, none⟩,
         ⟨(some 86), .load (some 4) (.t 2), (some (85, false)), none⟩,
         ⟨(some 87), .mv (.t 1), (some (85, false)), none⟩,
         ⟨(some 88), .mv (.t 8), (some (85, false)), none⟩,
         ⟨(some 89), .mv (.t 9), (some (85, false)), none⟩,
         ⟨(some 90), .mv (.t 11), (some (85, false)), none⟩,
         ⟨(some 91), .idxA 1 (.t 89) (.t 90), (some (85, false)), none⟩,
         ⟨(some 92), .load none (.t 91), (some (85, false)), none⟩,
         ⟨(some 93), .mv (.c .junk), (some (85, false)), (some ((.c (.clo f_reach_Matches [] [])), [(.t 86), (.t 87), (.t 88), (.t 92)]))⟩,
         ⟨(some 94), .un .not (.t 93), (some (85, false)), none⟩,
         ⟨(some 95), .pick (.t 85) (.c (.v (.bool true))) (.t 94), none, none⟩,
         ⟨(some 96), .mv (.t 95), none, none⟩,
         ⟨(some 97), .mv (.t 11), (some (96, false)), none⟩,
         ⟨(some 98), .bin .gtr (.t 97) (.c (.v (.int .i64 0))), (some (96, false)), none⟩,
         ⟨(some 99), .mv (.t 98), (some (96, false)), none⟩,
         ⟨(some 100), .mv (.t 9), (some (99, true)), none⟩,
         ⟨(some 101), .mv (.t 11), (some (99, true)), none⟩,
         ⟨(some 102), .bin .sub (.t 101) (.c (.v (.int .i64 1))), (some (99, true)), none⟩,
         ⟨(some 103), .idxA 1 (.t 100) (.t 102), (some (99, true)), none⟩,
         ⟨(some 104), .load none (.t 103), (some (99, true)), none⟩,
         ⟨(some 105), .mv (.t 9), (some (99, true)), none⟩,
         ⟨(some 106), .mv (.t 11), (some (99, true)), none⟩,
         ⟨(some 107), .idxA 1 (.t 105) (.t 106), (some (99, true)), none⟩,
         ⟨(some 108), .load none (.t 107), (some (99, true)), none⟩,
         ⟨(some 109), .bin .geq (.t 104) (.t 108), (some (99, true)), none⟩,
         ⟨(some 110), .pick (.t 99) (.t 109) (.c (.v (.bool false))), (some (96, false)), none⟩,
         ⟨(some 111), .pick (.t 96) (.c (.v (.bool true))) (.t 110), none, none⟩])
        (.cond (.t 111) (.seq (.reg none [
          ⟨(some 4), .mv (.c (.v (.bool false))), none, none⟩])
         .ret) .skip)))
       (.reg none [
        ⟨(some 52), .mv (.t 11), none, none⟩,
        ⟨(some 53), .bin .add (.t 52) (.c (.v (.int .i64 1))), none, none⟩,
        ⟨(some 11), .mv (.t 53), none, none⟩])))))
def c_rt_out (f_reach_Ends f_reach_Begins f_reach_Matches : FuncId) : AC :=
  (.block 0 (.loop (.seq (.seq (.reg none [
     ⟨(some 28), .mv (.t 8), none, none⟩,
     ⟨(some 29), .mv (.t 7), none, none⟩,
     ⟨(some 30), .bin .leq (.t 28) (.t 29), none, none⟩])
    (.cond (.t 30) .skip (.exit 0)))
    (.seq (.block 1 (.seq (.reg none [
      ⟨(some 33), .load (some 4) (.t 2), none, none⟩,
      ⟨(some 34), .mv (.t 1), none, none⟩,
      ⟨(some 35), .mv (.t 8), none, none⟩,
      ⟨(some 36), .mv (.c .junk), none, (some ((.c (.clo f_reach_Ends [] [])), [(.t 33), (.t 34), (.t 35)]))⟩,
      ⟨(some 9), .mv (.t 36), none, none⟩])
     (.seq (.reg none [
      ⟨(some 37), .load (some 4) (.t 5), none, none⟩,
      ⟨(some 38), .mv (.t 6), none, none⟩,
      ⟨(some 39), .mv (.t 7), none, none⟩,
      ⟨(some 40), .mv (.t 8), none, none⟩,
      ⟨(some 41), .bin .sub (.t 39) (.t 40), none, none⟩,
      ⟨(some 42), .mv (.c .junk), none, (some ((.c (.clo f_reach_Begins [] [])), [(.t 37), (.t 38), (.t 41)]))⟩,
      ⟨(some 10), .mv (.t 42), none, none⟩])
     (.seq (.seq (.reg none [
      ⟨(some 43), .mv (.t 9), none, none⟩,
      ⟨(some 44), .len (.t 43), none, none⟩,
      ⟨(some 45), .mv (.t 10), none, none⟩,
      ⟨(some 46), .len (.t 45), none, none⟩,
      ⟨(some 47), .bin .neq (.t 44) (.t 46), none, none⟩])
     (.cond (.t 47) (.seq (.reg none [
       ⟨(some 4), .mv (.c (.v (.bool false))), none, none⟩])
      .ret) .skip))
     (.seq (.reg none [
      ⟨(some 11), .mv (.c (.v (.int .i64 0))), none, none⟩])
     (c_rt_in f_reach_Matches))))))
    (.reg none [
     ⟨(some 31), .mv (.t 8), none, none⟩,
     ⟨(some 32), .bin .add (.t 31) (.c (.v (.int .i64 1))), none, none⟩,
     ⟨(some 8), .mv (.t 32), none, none⟩])))))
def c_caesuralaw11_ReachTurns (f_caesuralaw11_alive f_caesuraref08_Weight f_reach_Turn f_caesuraref11_Back f_reach_Ends f_reach_Begins f_reach_Matches f_caesuraref08_Same f_reach_Null : FuncId) : AC :=
  (.seq (.reg none [
   ⟨(some 2), .box 4 (.t 0), none, none⟩,
   ⟨(some 4), .mv (.c (.v (.bool false))), none, none⟩])
  (.seq (.seq (.reg none [
   ⟨(some 12), .mv (.c .junk), none, (some ((.c (.clo f_caesuralaw11_alive [] [])), []))⟩,
   ⟨(some 13), .un .not (.t 12), none, none⟩])
  (.cond (.t 13) (.seq (.reg none [
    ⟨(some 4), .mv (.c (.v (.bool false))), none, none⟩])
   .ret) .skip))
  (.seq (.seq (.reg none [
   ⟨(some 14), .load (some 4) (.t 2), none, none⟩,
   ⟨(some 15), .mv (.c .junk), none, (some ((.c (.clo f_caesuraref08_Weight [] [])), [(.t 14), (.c (.v (.int .i64 0)))]))⟩,
   ⟨(some 16), .bin .gtr (.t 15) (.c (.v (.int .i64 300))), none, none⟩,
   ⟨(some 17), .mv (.t 16), none, none⟩,
   ⟨(some 18), .mv (.t 1), (some (17, false)), none⟩,
   ⟨(some 19), .len (.t 18), (some (17, false)), none⟩,
   ⟨(some 20), .bin .gtr (.t 19) (.c (.v (.int .i64 15))), (some (17, false)), none⟩,
   ⟨(some 21), .pick (.t 17) (.c (.v (.bool true))) (.t 20), none, none⟩])
  (.cond (.t 21) (.seq (.reg none [
    ⟨(some 4), .mv (.c (.v (.bool true))), none, none⟩])
   .ret) .skip))
  (.seq (.reg none [
   ⟨(some 22), .load (some 4) (.t 2), none, none⟩,
   ⟨(some 23), .mv (.c .junk), none, (some ((.c (.clo f_reach_Turn [] [])), [(.t 22)]))⟩,
   ⟨(some 24), .mv (.t 1), none, none⟩,
   ⟨(some 25), .mv (.c .junk), none, (some ((.c (.clo f_caesuraref11_Back [] [])), [(.t 24)]))⟩,
   ⟨(some 26), .mv (.t 1), none, none⟩,
   ⟨(some 27), .len (.t 26), none, none⟩,
   ⟨(some 5), .alloc (.agg [(.v (.int .i64 0)), (.sl true []), (.sl true []), (.sl true [])]) 4, none, none⟩,
   ⟨none, .store 4 (.t 5) (.t 23), none, none⟩,
   ⟨(some 6), .mv (.t 25), none, none⟩,
   ⟨(some 7), .mv (.t 27), none, none⟩])
  (.seq (.seq (.reg none [
   ⟨(some 8), .mv (.c (.v (.int .i64 0))), none, none⟩])
  (c_rt_out f_reach_Ends f_reach_Begins f_reach_Matches))
  (.seq (.reg (some []) [
   ⟨(some 112), .load (some 4) (.t 5), none, none⟩,
   ⟨(some 113), .mv (.c .junk), none, (some ((.c (.clo f_reach_Turn [] [])), [(.t 112)]))⟩,
   ⟨(some 114), .load (some 4) (.t 2), none, none⟩,
   ⟨(some 115), .mv (.c .junk), none, (some ((.c (.clo f_caesuraref08_Same [] [])), [(.t 113), (.t 114)]))⟩,
   ⟨(some 116), .mv (.t 115), none, none⟩,
   ⟨(some 117), .load (some 4) (.t 5), (some (116, true)), none⟩,
   ⟨(some 118), .mv (.c .junk), (some (116, true)), (some ((.c (.clo f_reach_Null [] [])), [(.t 117)]))⟩,
   ⟨(some 119), .load (some 4) (.t 2), (some (116, true)), none⟩,
   ⟨(some 120), .mv (.c .junk), (some (116, true)), (some ((.c (.clo f_reach_Null [] [])), [(.t 119)]))⟩,
   ⟨(some 121), .beq false (.t 118) (.t 120), (some (116, true)), none⟩,
   ⟨(some 122), .pick (.t 116) (.t 121) (.c (.v (.bool false))), none, none⟩,
   ⟨(some 4), .mv (.t 122), none, none⟩])
  .ret))))))
/-! ### ReachTurns -/
theorem endsP_sorted (p : Pat) (l : List Int) (a : Int) : (endsP p l a).Pairwise (· < ·) := by
  unfold endsP
  split
  · exact .nil
  · have h1 : (ddp (visits l p a)).mergeSort (fun x y => decide (x ≤ y)) |>.Nodup := (List.mergeSort_perm _ _).nodup_iff.mpr (ddp_nodup _)
    have h2 := List.pairwise_mergeSort (le := fun x y : Int => decide (x ≤ y)) (fun a b c h1 h2 => by simp at h1 h2 ⊢; omega) (fun a b => by simp; omega) (ddp (visits l p a))
    exact (h1.and h2).imp fun ⟨h, k⟩ => by simp at k; omega
theorem endsP_ge {p : Pat} {l : List Int} {a : Int} : ∀ x ∈ endsP p l a, a ≤ x ∧ x ≤ (l.length : Int) := by
  intro x hx
  have h := endsP_MR.mp hx
  have := MR_inc (stp_inc l) p a x h.2.2
  exact ⟨this, (endsP_bd x hx).2⟩
theorem begins_turn (p : Pat) (l : List Int) (i : Int) (h0 : 0 ≤ i) (h1 : i ≤ l.length) : beginsP (turnP (turnP p)) l.reverse ((l.length : Int) - i) = ((endsP p l i).map fun n => (l.length : Int) - n).reverse := by
  unfold beginsP
  rw [if_neg (by simp; omega), turn_turn, List.reverse_reverse, List.length_reverse]
  have : (l.length : Int) - (l.length - i) = i := by omega
  rw [this]
structure RtS (p : Pat) (l : List Int) (b2 b5 : Nat) (f : AF) (S : St) : Prop where
  e1 : f 1 = encIs l
  e2 : f 2 = .ptr b2 0 0
  e5 : f 5 = .ptr b5 0 0
  e6 : f 6 = encIs l.reverse
  e7 : f 7 = encI l.length
  g2 : S.g b2 = some (.arr 4 [encPat p])
  g5 : S.g b5 = some (.arr 4 [encPat (turnP p)])
theorem RtS.same {p : Pat} {l : List Int} {b2 b5 : Nat} {f f' : AF} {S S' : St} (h : RtS p l b2 b5 f S) (hf : ∀ j, j = 1 ∨ j = 2 ∨ j = 5 ∨ j = 6 ∨ j = 7 → f' j = f j) (hg : S'.g = S.g) : RtS p l b2 b5 f' S' :=
  ⟨by rw [hf 1 (by simp)]; exact h.e1, by rw [hf 2 (by simp)]; exact h.e2, by rw [hf 5 (by simp)]; exact h.e5, by rw [hf 6 (by simp)]; exact h.e6, by rw [hf 7 (by simp)]; exact h.e7, by rw [hg]; exact h.g2, by rw [hg]; exact h.g5⟩
def RtO (p : Pat) (l : List Int) (b2 b5 : Nat) (i : Nat) (f : AF) (S : St) : Prop := RtS p l b2 b5 f S ∧ f 8 = encI i
structure RtE (l E B : List Int) (i : Int) : Prop where
  len : B.length = E.length
  get : ∀ k (h : k < E.length), B[E.length - 1 - k]? = some ((l.length : Int) - E[k])
  rng : ∀ x ∈ E, i ≤ x ∧ x ≤ (l.length : Int)
  inc : E.Pairwise (· < ·)
  few : E.length ≤ l.length + 1
theorem rtE (p : Pat) (l : List Int) (i : Int) (h0 : 0 ≤ i) (h1 : i ≤ l.length) : RtE l (endsP p l i) (beginsP (turnP (turnP p)) l.reverse ((l.length : Int) - i)) i := by
  rw [begins_turn p l i h0 h1]
  refine ⟨by simp, fun k hk => ?_, endsP_ge, endsP_sorted p l i, endsP_len⟩
  rw [List.getElem?_reverse (by simp; omega), List.getElem?_map]
  have : ((endsP p l i).map fun n => (l.length : Int) - n).length - 1 - ((endsP p l i).length - 1 - k) = k := by simp; omega
  rw [this, List.getElem?_eq_getElem hk]; rfl
def RtI (p : Pat) (l E B : List Int) (b2 b5 : Nat) (i : Nat) (k : Nat) (f : AF) (S : St) : Prop := RtS p l b2 b5 f S ∧ f 8 = encI i ∧ f 9 = encIs E ∧ f 10 = encIs B ∧ f 11 = encI k
theorem rt_in {P : Program} {fm : FuncId} {p : Pat} {l E B : List Int} {b2 b5 i : Nat} (hl : l.length ≤ 15) (hE : E = endsP p l i) (h : RtE l E B i) (hm : ∀ a b : Int, PureC P fm [encPat p, encIs l, encI a, encI b] (encB (matP p l a b)))
    {f : AF} {S : St} {Q : Exit → AF → St → Prop} (h0 : RtI p l E B b2 b5 i 0 f S) (hQ : ∀ f' S', RtS p l b2 b5 f' S' → f' 8 = encI i → Q .normal f' S') : AW P (c_rt_in fm) Q f S := by
  obtain ⟨x1, x2, x3, x4, hx⟩ := encPat_4 p
  have cp := closed_Pat p
  have hf := h.few
  have hln := h.len
  simp [AW_seq, AW_reg, AW_regD, AW_block, AW_cond, AW_skip, AW_exit, AW_ret, AW_scp, condR_true, condR_false, AThen_normal, AThen_ret, AThen_exit, ABlock_normal, ABlock_ret, ABlock_exit, AScope_normal, AScope_ret, AScope_exit, RetK_ret, RetK_normal, retAV_one, retAV_two, retAV_three, retAV_nil, RG_nil, RG_op, RG_guard, gdR_tt, gdR_ff, gdR_tf, gdR_ft, gdR_un, RG_call, callQ_clo, contK_ap, opR_some, RD_nil, RD_op0, RD_op1, opD0_some, opD1_some, RD_call, callQD_clo, RD_guard, gdD_tt, gdD_ff, gdD_tf, gdD_ft, gdD_un, psh_nil, psh_cons, Apt_nil, Apt_nilT, Apt_true, Apt_false, Dis_def, runT_val, runT_rd, runT_wr, runT_new, runT_mv, ex, put_some, put_none, ev_t, ev_c, argF_zero, argF_succ, set_g, set_n, cells_v, cells_sl, cells_agg, cells_own, cells_ptr, cells_clo, cells_eptr, cells_mp, putc, exBslice, lfill, exField, exIdxV, exIdxP, exBox, exAlloc, exLoad, exStore, exFieldA, exIdxA, exLen, exPick, exUn, exBeq, exMM, exSeq, seqGo, exExt, binV, intOp, subc, AV.solid, S0, encI, encB, c_rt_in]
  refine AW_for E.length (RtI p l E B b2 b5 i) h0 ?_
  rintro k f S hk ⟨hs, e8, e9, e10, e11⟩
  obtain ⟨e1, e2, e5, e6, e7, g2, g5⟩ := hs
  have hs := (⟨e1, e2, e5, e6, e7, g2, g5⟩ : RtS p l b2 b5 f S)
  rw [hx] at g2 cp
  by_cases hlt : k < E.length
  · have hg : E[k]? = some E[k] := List.getElem?_eq_getElem hlt
    have hB := h.get k hlt
    have hr := h.rng _ (List.getElem_mem hlt)
    have hmt : matP p l i E[k] = true := by
      unfold matP; rw [List.contains_iff_mem, ← hE]; exact List.getElem_mem hlt
    have km := hm i E[k]
    rw [hmt, hx] at km
    have n1 : ¬ E[k] < (i : Int) := by omega
    have n2 : ¬ (l.length : Int) < E[k] := by omega
    have w1 := wrap_in ((B.length : Int) - 1) (by omega)
    have w2 := wrap_in ((B.length : Int) - 1 - k) (by omega)
    have w3 := wrap_in ((l.length : Int) - E[k]) (by omega)
    have i1 : (0 : Int) ≤ (B.length : Int) - 1 - k := by omega
    have i1' : (k : Int) ≤ (B.length : Int) - 1 := by omega
    have i2 : ((B.length : Int) - 1 - k).toNat = E.length - 1 - k := by omega
    have i3 : (B.length : Int) - 1 - k < B.length := by omega
    have i4 : E.length - 1 - k < B.length := by omega
    have hB2 : B[E.length - 1 - k] = (l.length : Int) - E[k] := by rw [List.getElem?_eq_getElem i4] at hB; simpa using hB
    have n3 : (((l.length : Int) - E[k]) != ((l.length : Int) - E[k])) = false := by simp
    simp only [encIs, encI] at km
    have d1 : ∀ n g, CallD P fm _ ⟨n, g⟩ [] _ := fun n g => CallD.kl km (cl_cons cp (cl_cons (closed_Is l) (cl_cons (closed_I _) (cl_cons (closed_I _) cl_nil)))) (closed_B true)
    simp [AW_seq, AW_reg, AW_regD, AW_block, AW_cond, AW_skip, AW_exit, AW_ret, AW_scp, condR_true, condR_false, AThen_normal, AThen_ret, AThen_exit, ABlock_normal, ABlock_ret, ABlock_exit, AScope_normal, AScope_ret, AScope_exit, RetK_ret, RetK_normal, retAV_one, retAV_two, retAV_three, retAV_nil, RG_nil, RG_op, RG_guard, gdR_tt, gdR_ff, gdR_tf, gdR_ft, gdR_un, RG_call, callQ_clo, contK_ap, opR_some, RD_nil, RD_op0, RD_op1, opD0_some, opD1_some, RD_call, callQD_clo, RD_guard, gdD_tt, gdD_ff, gdD_tf, gdD_ft, gdD_un, psh_nil, psh_cons, Apt_nil, Apt_nilT, Apt_true, Apt_false, Dis_def, runT_val, runT_rd, runT_wr, runT_new, runT_mv, ex, put_some, put_none, ev_t, ev_c, argF_zero, argF_succ, set_g, set_n, cells_v, cells_sl, cells_agg, cells_own, cells_ptr, cells_clo, cells_eptr, cells_mp, putc, exBslice, lfill, exField, exIdxV, exIdxP, exBox, exAlloc, exLoad, exStore, exFieldA, exIdxA, exLen, exPick, exUn, exBeq, exMM, exSeq, seqGo, exExt, binV, intOp, subc, AV.solid, S0, encI, encB, e1, e2, e7, e8, e9, e10, e11, g2, encIs, hlt, hg, n1, n2, w1, w2, w3, i1, i1', i2, i3, i4, hB2, n3]
    refine ⟨encB true, ⟨[], d1 _ _⟩, ?_⟩
    by_cases hk0 : k = 0
    · subst hk0
      simp [AW_seq, AW_reg, AW_regD, AW_block, AW_cond, AW_skip, AW_exit, AW_ret, AW_scp, condR_true, condR_false, AThen_normal, AThen_ret, AThen_exit, ABlock_normal, ABlock_ret, ABlock_exit, AScope_normal, AScope_ret, AScope_exit, RetK_ret, RetK_normal, retAV_one, retAV_two, retAV_three, retAV_nil, RG_nil, RG_op, RG_guard, gdR_tt, gdR_ff, gdR_tf, gdR_ft, gdR_un, RG_call, callQ_clo, contK_ap, opR_some, RD_nil, RD_op0, RD_op1, opD0_some, opD1_some, RD_call, callQD_clo, RD_guard, gdD_tt, gdD_ff, gdD_tf, gdD_ft, gdD_un, psh_nil, psh_cons, Apt_nil, Apt_nilT, Apt_true, Apt_false, Dis_def, runT_val, runT_rd, runT_wr, runT_new, runT_mv, ex, put_some, put_none, ev_t, ev_c, argF_zero, argF_succ, set_g, set_n, cells_v, cells_sl, cells_agg, cells_own, cells_ptr, cells_clo, cells_eptr, cells_mp, putc, exBslice, lfill, exField, exIdxV, exIdxP, exBox, exAlloc, exLoad, exStore, exFieldA, exIdxA, exLen, exPick, exUn, exBeq, exMM, exSeq, seqGo, exExt, binV, intOp, subc, AV.solid, S0, encI, encB, e1, e2, e7, e8, e9, e10, e11, g2, encIs, hlt]
      rw [wrap_in _ (by omega)]
      refine ⟨hlt, hs.same (fun j hj => by rcases hj with rfl | rfl | rfl | rfl | rfl <;> first | rfl | simp [put_some]) rfl, ?_, ?_, ?_, ?_⟩ <;> simp [put_some, e8, e9, e10, encI, encIs]
    · have q1 : (0 : Int) < k := by omega
      have q1' : 0 < k := by omega
      have w4 := wrap_in ((k : Int) - 1) (by omega)
      have q2 : ((k : Int) - 1).toNat = k - 1 := by omega
      have r1 : (0 : Int) ≤ (k : Int) - 1 := by omega
      have r1' : (1 : Int) ≤ (k : Int) := by omega
      have r1'' : 1 ≤ k := by omega
      have r3 : (k : Int) - 1 < E.length := by omega
      have q3 : E[k - 1]? = some (E[k - 1]'(by omega)) := List.getElem?_eq_getElem (by omega)
      have q4 : E[k - 1]'(by omega) < E[k] := List.pairwise_iff_getElem.mp h.inc (k - 1) k (by omega) hlt (by omega)
      have q5 : ¬ (E[k] ≤ E[k - 1]'(by omega)) := by omega
      have q6 : k - 1 < E.length := by omega
      simp [AW_seq, AW_reg, AW_regD, AW_block, AW_cond, AW_skip, AW_exit, AW_ret, AW_scp, condR_true, condR_false, AThen_normal, AThen_ret, AThen_exit, ABlock_normal, ABlock_ret, ABlock_exit, AScope_normal, AScope_ret, AScope_exit, RetK_ret, RetK_normal, retAV_one, retAV_two, retAV_three, retAV_nil, RG_nil, RG_op, RG_guard, gdR_tt, gdR_ff, gdR_tf, gdR_ft, gdR_un, RG_call, callQ_clo, contK_ap, opR_some, RD_nil, RD_op0, RD_op1, opD0_some, opD1_some, RD_call, callQD_clo, RD_guard, gdD_tt, gdD_ff, gdD_tf, gdD_ft, gdD_un, psh_nil, psh_cons, Apt_nil, Apt_nilT, Apt_true, Apt_false, Dis_def, runT_val, runT_rd, runT_wr, runT_new, runT_mv, ex, put_some, put_none, ev_t, ev_c, argF_zero, argF_succ, set_g, set_n, cells_v, cells_sl, cells_agg, cells_own, cells_ptr, cells_clo, cells_eptr, cells_mp, putc, exBslice, lfill, exField, exIdxV, exIdxP, exBox, exAlloc, exLoad, exStore, exFieldA, exIdxA, exLen, exPick, exUn, exBeq, exMM, exSeq, seqGo, exExt, binV, intOp, subc, AV.solid, S0, encI, encB, e1, e2, e7, e8, e9, e10, e11, g2, encIs, hlt, hg, q1, q1', w4, q2, q3, q5, q6, r1, r1', r1'', r3]
      rw [wrap_in _ (by omega)]
      refine ⟨hlt, hs.same (fun j hj => by rcases hj with rfl | rfl | rfl | rfl | rfl <;> first | rfl | simp [put_some]) rfl, ?_, ?_, ?_, ?_⟩ <;> simp [put_some, e8, e9, e10, encI, encIs]
  · have hke : k = E.length := by omega
    subst hke
    simp [AW_seq, AW_reg, AW_regD, AW_block, AW_cond, AW_skip, AW_exit, AW_ret, AW_scp, condR_true, condR_false, AThen_normal, AThen_ret, AThen_exit, ABlock_normal, ABlock_ret, ABlock_exit, AScope_normal, AScope_ret, AScope_exit, RetK_ret, RetK_normal, retAV_one, retAV_two, retAV_three, retAV_nil, RG_nil, RG_op, RG_guard, gdR_tt, gdR_ff, gdR_tf, gdR_ft, gdR_un, RG_call, callQ_clo, contK_ap, opR_some, RD_nil, RD_op0, RD_op1, opD0_some, opD1_some, RD_call, callQD_clo, RD_guard, gdD_tt, gdD_ff, gdD_tf, gdD_ft, gdD_un, psh_nil, psh_cons, Apt_nil, Apt_nilT, Apt_true, Apt_false, Dis_def, runT_val, runT_rd, runT_wr, runT_new, runT_mv, ex, put_some, put_none, ev_t, ev_c, argF_zero, argF_succ, set_g, set_n, cells_v, cells_sl, cells_agg, cells_own, cells_ptr, cells_clo, cells_eptr, cells_mp, putc, exBslice, lfill, exField, exIdxV, exIdxP, exBox, exAlloc, exLoad, exStore, exFieldA, exIdxA, exLen, exPick, exUn, exBeq, exMM, exSeq, seqGo, exExt, binV, intOp, subc, AV.solid, S0, encI, encB, e9, e11, encIs, hlt]
    exact hQ _ _ (hs.same (fun j hj => by rcases hj with rfl | rfl | rfl | rfl | rfl <;> first | rfl | simp [put_some]) rfl) (by simp [put_some, e8])
theorem rt_out {P : Program} {fe fb fm : FuncId} {p : Pat} {l : List Int} {b2 b5 : Nat} (hl : l.length ≤ 15) (he : ∀ a : Int, PureC P fe [encPat p, encIs l, encI a] (encIs (endsP p l a))) (hb : ∀ a : Int, PureC P fb [encPat (turnP p), encIs l.reverse, encI a] (encIs (beginsP (turnP (turnP p)) l.reverse a)))
    (hm : ∀ a b : Int, PureC P fm [encPat p, encIs l, encI a, encI b] (encB (matP p l a b))) {f : AF} {S : St} {Q : Exit → AF → St → Prop} (h0 : RtO p l b2 b5 0 f S) (hQ : ∀ f' S', RtS p l b2 b5 f' S' → Q .normal f' S') : AW P (c_rt_out fe fb fm) Q f S := by
  obtain ⟨x1, x2, x3, x4, hx⟩ := encPat_4 p
  obtain ⟨y1, y2, y3, y4, hy⟩ := encPat_4 (turnP p)
  have cp := closed_Pat p
  have cq := closed_Pat (turnP p)
  simp [AW_seq, AW_reg, AW_regD, AW_block, AW_cond, AW_skip, AW_exit, AW_ret, AW_scp, condR_true, condR_false, AThen_normal, AThen_ret, AThen_exit, ABlock_normal, ABlock_ret, ABlock_exit, AScope_normal, AScope_ret, AScope_exit, RetK_ret, RetK_normal, retAV_one, retAV_two, retAV_three, retAV_nil, RG_nil, RG_op, RG_guard, gdR_tt, gdR_ff, gdR_tf, gdR_ft, gdR_un, RG_call, callQ_clo, contK_ap, opR_some, RD_nil, RD_op0, RD_op1, opD0_some, opD1_some, RD_call, callQD_clo, RD_guard, gdD_tt, gdD_ff, gdD_tf, gdD_ft, gdD_un, psh_nil, psh_cons, Apt_nil, Apt_nilT, Apt_true, Apt_false, Dis_def, runT_val, runT_rd, runT_wr, runT_new, runT_mv, ex, put_some, put_none, ev_t, ev_c, argF_zero, argF_succ, set_g, set_n, cells_v, cells_sl, cells_agg, cells_own, cells_ptr, cells_clo, cells_eptr, cells_mp, putc, exBslice, lfill, exField, exIdxV, exIdxP, exBox, exAlloc, exLoad, exStore, exFieldA, exIdxA, exLen, exPick, exUn, exBeq, exMM, exSeq, seqGo, exExt, binV, intOp, subc, AV.solid, S0, encI, encB, c_rt_out]
  refine AW_for (l.length + 1) (RtO p l b2 b5) h0 ?_
  rintro i f S hi ⟨hs, e8⟩
  obtain ⟨e1, e2, e5, e6, e7, g2, g5⟩ := hs
  have hs := (⟨e1, e2, e5, e6, e7, g2, g5⟩ : RtS p l b2 b5 f S)
  rw [hx] at g2
  rw [hy] at g5
  by_cases hlt : (i : Int) ≤ l.length
  · have hlt' : i ≤ l.length := by omega
    have ke := he i
    have kb := hb ((l.length : Int) - i)
    have hE := rtE p l i (by omega) hlt
    generalize beginsP (turnP (turnP p)) l.reverse ((l.length : Int) - i) = B at *
    generalize hEe : endsP p l i = E at *
    have cE := closed_Is E
    have cB := closed_Is B
    have hw := wrap_in ((l.length : Int) - i) (by omega)
    rw [hx] at ke cp
    rw [hy] at kb cq
    have kE := cl_cons cp (cl_cons (closed_Is l) (cl_cons (closed_I i) cl_nil))
    have kB := cl_cons cq (cl_cons (closed_Is l.reverse) (cl_cons (closed_I ((l.length : Int) - i)) cl_nil))
    have hne : ((E.length : Int) != (B.length : Int)) = false := by rw [hE.len]; simp
    simp only [encIs, encI, List.map_reverse] at ke kb cE cB kE kB
    simp [AW_seq, AW_reg, AW_regD, AW_block, AW_cond, AW_skip, AW_exit, AW_ret, AW_scp, condR_true, condR_false, AThen_normal, AThen_ret, AThen_exit, ABlock_normal, ABlock_ret, ABlock_exit, AScope_normal, AScope_ret, AScope_exit, RetK_ret, RetK_normal, retAV_one, retAV_two, retAV_three, retAV_nil, RG_nil, RG_op, RG_guard, gdR_tt, gdR_ff, gdR_tf, gdR_ft, gdR_un, RG_call, callQ_clo, contK_ap, opR_some, RD_nil, RD_op0, RD_op1, opD0_some, opD1_some, RD_call, callQD_clo, RD_guard, gdD_tt, gdD_ff, gdD_tf, gdD_ft, gdD_un, psh_nil, psh_cons, Apt_nil, Apt_nilT, Apt_true, Apt_false, Dis_def, runT_val, runT_rd, runT_wr, runT_new, runT_mv, ex, put_some, put_none, ev_t, ev_c, argF_zero, argF_succ, set_g, set_n, cells_v, cells_sl, cells_agg, cells_own, cells_ptr, cells_clo, cells_eptr, cells_mp, putc, exBslice, lfill, exField, exIdxV, exIdxP, exBox, exAlloc, exLoad, exStore, exFieldA, exIdxA, exLen, exPick, exUn, exBeq, exMM, exSeq, seqGo, exExt, binV, intOp, subc, AV.solid, S0, encI, encB, e1, e2, e5, e6, e7, e8, g2, g5, encIs, hlt, hlt']
    refine CallR.pure ke kE cE ?_
    simp [AW_seq, AW_reg, AW_regD, AW_block, AW_cond, AW_skip, AW_exit, AW_ret, AW_scp, condR_true, condR_false, AThen_normal, AThen_ret, AThen_exit, ABlock_normal, ABlock_ret, ABlock_exit, AScope_normal, AScope_ret, AScope_exit, RetK_ret, RetK_normal, retAV_one, retAV_two, retAV_three, retAV_nil, RG_nil, RG_op, RG_guard, gdR_tt, gdR_ff, gdR_tf, gdR_ft, gdR_un, RG_call, callQ_clo, contK_ap, opR_some, RD_nil, RD_op0, RD_op1, opD0_some, opD1_some, RD_call, callQD_clo, RD_guard, gdD_tt, gdD_ff, gdD_tf, gdD_ft, gdD_un, psh_nil, psh_cons, Apt_nil, Apt_nilT, Apt_true, Apt_false, Dis_def, runT_val, runT_rd, runT_wr, runT_new, runT_mv, ex, put_some, put_none, ev_t, ev_c, argF_zero, argF_succ, set_g, set_n, cells_v, cells_sl, cells_agg, cells_own, cells_ptr, cells_clo, cells_eptr, cells_mp, putc, exBslice, lfill, exField, exIdxV, exIdxP, exBox, exAlloc, exLoad, exStore, exFieldA, exIdxA, exLen, exPick, exUn, exBeq, exMM, exSeq, seqGo, exExt, binV, intOp, subc, AV.solid, S0, encI, encB, e1, e2, e5, e6, e7, e8, g2, g5, encIs, hw]
    refine CallR.pure kb kB cB ?_
    simp [AW_seq, AW_reg, AW_regD, AW_block, AW_cond, AW_skip, AW_exit, AW_ret, AW_scp, condR_true, condR_false, AThen_normal, AThen_ret, AThen_exit, ABlock_normal, ABlock_ret, ABlock_exit, AScope_normal, AScope_ret, AScope_exit, RetK_ret, RetK_normal, retAV_one, retAV_two, retAV_three, retAV_nil, RG_nil, RG_op, RG_guard, gdR_tt, gdR_ff, gdR_tf, gdR_ft, gdR_un, RG_call, callQ_clo, contK_ap, opR_some, RD_nil, RD_op0, RD_op1, opD0_some, opD1_some, RD_call, callQD_clo, RD_guard, gdD_tt, gdD_ff, gdD_tf, gdD_ft, gdD_un, psh_nil, psh_cons, Apt_nil, Apt_nilT, Apt_true, Apt_false, Dis_def, runT_val, runT_rd, runT_wr, runT_new, runT_mv, ex, put_some, put_none, ev_t, ev_c, argF_zero, argF_succ, set_g, set_n, cells_v, cells_sl, cells_agg, cells_own, cells_ptr, cells_clo, cells_eptr, cells_mp, putc, exBslice, lfill, exField, exIdxV, exIdxP, exBox, exAlloc, exLoad, exStore, exFieldA, exIdxA, exLen, exPick, exUn, exBeq, exMM, exSeq, seqGo, exExt, binV, intOp, subc, AV.solid, S0, encI, encB, hne]
    refine rt_in (p := p) (l := l) (E := E) (B := B) (b2 := b2) (b5 := b5) (i := i) hl hEe.symm hE hm ⟨hs.same (fun j hj => by rcases hj with rfl | rfl | rfl | rfl | rfl <;> first | rfl | simp [put_some]) rfl, ?_, ?_, ?_, ?_⟩ (fun f S hs2 e8 => ?_)
    · simp [put_some, e8]
    · simp [put_some, encIs]
    · simp [put_some, encIs]
    · simp [put_some, encI]
    · simp [AW_seq, AW_reg, AW_regD, AW_block, AW_cond, AW_skip, AW_exit, AW_ret, AW_scp, condR_true, condR_false, AThen_normal, AThen_ret, AThen_exit, ABlock_normal, ABlock_ret, ABlock_exit, AScope_normal, AScope_ret, AScope_exit, RetK_ret, RetK_normal, retAV_one, retAV_two, retAV_three, retAV_nil, RG_nil, RG_op, RG_guard, gdR_tt, gdR_ff, gdR_tf, gdR_ft, gdR_un, RG_call, callQ_clo, contK_ap, opR_some, RD_nil, RD_op0, RD_op1, opD0_some, opD1_some, RD_call, callQD_clo, RD_guard, gdD_tt, gdD_ff, gdD_tf, gdD_ft, gdD_un, psh_nil, psh_cons, Apt_nil, Apt_nilT, Apt_true, Apt_false, Dis_def, runT_val, runT_rd, runT_wr, runT_new, runT_mv, ex, put_some, put_none, ev_t, ev_c, argF_zero, argF_succ, set_g, set_n, cells_v, cells_sl, cells_agg, cells_own, cells_ptr, cells_clo, cells_eptr, cells_mp, putc, exBslice, lfill, exField, exIdxV, exIdxP, exBox, exAlloc, exLoad, exStore, exFieldA, exIdxA, exLen, exPick, exUn, exBeq, exMM, exSeq, seqGo, exExt, binV, intOp, subc, AV.solid, S0, encI, encB, e8]
      rw [wrap_in _ (by omega)]
      refine ⟨by omega, hs2.same (fun j hj => by rcases hj with rfl | rfl | rfl | rfl | rfl <;> first | rfl | simp [put_some]) rfl, ?_⟩
      simp [put_some, encI]
  · have hlt' : ¬ i ≤ l.length := by omega
    simp [AW_seq, AW_reg, AW_regD, AW_block, AW_cond, AW_skip, AW_exit, AW_ret, AW_scp, condR_true, condR_false, AThen_normal, AThen_ret, AThen_exit, ABlock_normal, ABlock_ret, ABlock_exit, AScope_normal, AScope_ret, AScope_exit, RetK_ret, RetK_normal, retAV_one, retAV_two, retAV_three, retAV_nil, RG_nil, RG_op, RG_guard, gdR_tt, gdR_ff, gdR_tf, gdR_ft, gdR_un, RG_call, callQ_clo, contK_ap, opR_some, RD_nil, RD_op0, RD_op1, opD0_some, opD1_some, RD_call, callQD_clo, RD_guard, gdD_tt, gdD_ff, gdD_tf, gdD_ft, gdD_un, psh_nil, psh_cons, Apt_nil, Apt_nilT, Apt_true, Apt_false, Dis_def, runT_val, runT_rd, runT_wr, runT_new, runT_mv, ex, put_some, put_none, ev_t, ev_c, argF_zero, argF_succ, set_g, set_n, cells_v, cells_sl, cells_agg, cells_own, cells_ptr, cells_clo, cells_eptr, cells_mp, putc, exBslice, lfill, exField, exIdxV, exIdxP, exBox, exAlloc, exLoad, exStore, exFieldA, exIdxA, exLen, exPick, exUn, exBeq, exMM, exSeq, seqGo, exExt, binV, intOp, subc, AV.solid, S0, encI, encB, e1, e2, e5, e6, e7, e8, hlt, hlt']
    exact hQ _ _ (hs.same (fun j hj => by rcases hj with rfl | rfl | rfl | rfl | rfl <;> first | rfl | simp [put_some]) rfl)
theorem ReachTurns_body {P : Program} {fl fw ft fk fe fb fm fs fn : FuncId} (p : Pat) (l : List Int) (hl : PureC P fl [] (encB true)) (w : Int) (hw : PureC P fw [encPat p, encI 0] (encI w))
    (H : w ≤ 300 → l.length ≤ 15 → PureC P ft [encPat p] (encPat (turnP p)) ∧ PureC P ft [encPat (turnP p)] (encPat p) ∧ PureC P fk [encIs l] (encIs l.reverse) ∧ (∀ a : Int, PureC P fe [encPat p, encIs l, encI a] (encIs (endsP p l a))) ∧
      (∀ a : Int, PureC P fb [encPat (turnP p), encIs l.reverse, encI a] (encIs (beginsP (turnP (turnP p)) l.reverse a))) ∧ (∀ a b : Int, PureC P fm [encPat p, encIs l, encI a, encI b] (encB (matP p l a b))) ∧ PureC P fs [encPat p, encPat p] (encB true) ∧
      PureC P fn [encPat p] (encB (matP p [] 0 0)) ∧ PureC P fn [encPat (turnP p)] (encB (matP (turnP p) [] 0 0))) :
    AW P (c_caesuralaw11_ReachTurns fl fw ft fk fe fb fm fs fn) (RetK [4] (FzK (encB true))) (argF [encPat p, encIs l]) S0 := by
  obtain ⟨x1, x2, x3, x4, hx⟩ := encPat_4 p
  obtain ⟨y1, y2, y3, y4, hy⟩ := encPat_4 (turnP p)
  have hc := closed_Pat p
  have hcy := closed_Pat (turnP p)
  rw [hx] at hw hc
  rw [hy] at hcy
  simp only [encI] at hw
  simp [AW_seq, AW_reg, AW_regD, AW_block, AW_cond, AW_skip, AW_exit, AW_ret, AW_scp, condR_true, condR_false, AThen_normal, AThen_ret, AThen_exit, ABlock_normal, ABlock_ret, ABlock_exit, AScope_normal, AScope_ret, AScope_exit, RetK_ret, RetK_normal, retAV_one, retAV_two, retAV_three, retAV_nil, RG_nil, RG_op, RG_guard, gdR_tt, gdR_ff, gdR_tf, gdR_ft, gdR_un, RG_call, callQ_clo, contK_ap, opR_some, RD_nil, RD_op0, RD_op1, opD0_some, opD1_some, RD_call, callQD_clo, RD_guard, gdD_tt, gdD_ff, gdD_tf, gdD_ft, gdD_un, psh_nil, psh_cons, Apt_nil, Apt_nilT, Apt_true, Apt_false, Dis_def, runT_val, runT_rd, runT_wr, runT_new, runT_mv, ex, put_some, put_none, ev_t, ev_c, argF_zero, argF_succ, set_g, set_n, cells_v, cells_sl, cells_agg, cells_own, cells_ptr, cells_clo, cells_eptr, cells_mp, putc, exBslice, lfill, exField, exIdxV, exIdxP, exBox, exAlloc, exLoad, exStore, exFieldA, exIdxA, exLen, exPick, exUn, exBeq, exMM, exSeq, seqGo, exExt, binV, intOp, subc, AV.solid, S0, encI, encB, c_caesuralaw11_ReachTurns, hx]
  refine CallR.pure hl cl_nil (closed_B _) ?_
  simp [AW_seq, AW_reg, AW_regD, AW_block, AW_cond, AW_skip, AW_exit, AW_ret, AW_scp, condR_true, condR_false, AThen_normal, AThen_ret, AThen_exit, ABlock_normal, ABlock_ret, ABlock_exit, AScope_normal, AScope_ret, AScope_exit, RetK_ret, RetK_normal, retAV_one, retAV_two, retAV_three, retAV_nil, RG_nil, RG_op, RG_guard, gdR_tt, gdR_ff, gdR_tf, gdR_ft, gdR_un, RG_call, callQ_clo, contK_ap, opR_some, RD_nil, RD_op0, RD_op1, opD0_some, opD1_some, RD_call, callQD_clo, RD_guard, gdD_tt, gdD_ff, gdD_tf, gdD_ft, gdD_un, psh_nil, psh_cons, Apt_nil, Apt_nilT, Apt_true, Apt_false, Dis_def, runT_val, runT_rd, runT_wr, runT_new, runT_mv, ex, put_some, put_none, ev_t, ev_c, argF_zero, argF_succ, set_g, set_n, cells_v, cells_sl, cells_agg, cells_own, cells_ptr, cells_clo, cells_eptr, cells_mp, putc, exBslice, lfill, exField, exIdxV, exIdxP, exBox, exAlloc, exLoad, exStore, exFieldA, exIdxA, exLen, exPick, exUn, exBeq, exMM, exSeq, seqGo, exExt, binV, intOp, subc, AV.solid, S0, encI, encB]
  refine CallR.pure hw (cl_cons hc (cl_cons (closed_I _) cl_nil)) (closed_I _) ?_
  by_cases h1 : 300 < w
  · simp [AW_seq, AW_reg, AW_regD, AW_block, AW_cond, AW_skip, AW_exit, AW_ret, AW_scp, condR_true, condR_false, AThen_normal, AThen_ret, AThen_exit, ABlock_normal, ABlock_ret, ABlock_exit, AScope_normal, AScope_ret, AScope_exit, RetK_ret, RetK_normal, retAV_one, retAV_two, retAV_three, retAV_nil, RG_nil, RG_op, RG_guard, gdR_tt, gdR_ff, gdR_tf, gdR_ft, gdR_un, RG_call, callQ_clo, contK_ap, opR_some, RD_nil, RD_op0, RD_op1, opD0_some, opD1_some, RD_call, callQD_clo, RD_guard, gdD_tt, gdD_ff, gdD_tf, gdD_ft, gdD_un, psh_nil, psh_cons, Apt_nil, Apt_nilT, Apt_true, Apt_false, Dis_def, runT_val, runT_rd, runT_wr, runT_new, runT_mv, ex, put_some, put_none, ev_t, ev_c, argF_zero, argF_succ, set_g, set_n, cells_v, cells_sl, cells_agg, cells_own, cells_ptr, cells_clo, cells_eptr, cells_mp, putc, exBslice, lfill, exField, exIdxV, exIdxP, exBox, exAlloc, exLoad, exStore, exFieldA, exIdxA, exLen, exPick, exUn, exBeq, exMM, exSeq, seqGo, exExt, binV, intOp, subc, AV.solid, S0, encI, encB, h1]
    exact FzK_B true _
  · by_cases h2 : (15 : Int) < l.length
    · have h2' : 15 < l.length := by omega
      simp [AW_seq, AW_reg, AW_regD, AW_block, AW_cond, AW_skip, AW_exit, AW_ret, AW_scp, condR_true, condR_false, AThen_normal, AThen_ret, AThen_exit, ABlock_normal, ABlock_ret, ABlock_exit, AScope_normal, AScope_ret, AScope_exit, RetK_ret, RetK_normal, retAV_one, retAV_two, retAV_three, retAV_nil, RG_nil, RG_op, RG_guard, gdR_tt, gdR_ff, gdR_tf, gdR_ft, gdR_un, RG_call, callQ_clo, contK_ap, opR_some, RD_nil, RD_op0, RD_op1, opD0_some, opD1_some, RD_call, callQD_clo, RD_guard, gdD_tt, gdD_ff, gdD_tf, gdD_ft, gdD_un, psh_nil, psh_cons, Apt_nil, Apt_nilT, Apt_true, Apt_false, Dis_def, runT_val, runT_rd, runT_wr, runT_new, runT_mv, ex, put_some, put_none, ev_t, ev_c, argF_zero, argF_succ, set_g, set_n, cells_v, cells_sl, cells_agg, cells_own, cells_ptr, cells_clo, cells_eptr, cells_mp, putc, exBslice, lfill, exField, exIdxV, exIdxP, exBox, exAlloc, exLoad, exStore, exFieldA, exIdxA, exLen, exPick, exUn, exBeq, exMM, exSeq, seqGo, exExt, binV, intOp, subc, AV.solid, S0, encI, encB, h1, h2, h2', encIs]
      exact FzK_B true _
    · have h2' : ¬ 15 < l.length := by omega
      obtain ⟨k1, k2, k3, k4, k5, k6, k7, k8, k9⟩ := H (by omega) (by omega)
      rw [null_turn] at k9
      rw [hx, hy] at k1 k2
      rw [hx] at k7 k8
      rw [hy] at k9
      have c3 := closed_Is l
      have c4 := closed_Is l.reverse
      simp only [encIs, List.map_reverse] at k3 c3 c4
      simp [AW_seq, AW_reg, AW_regD, AW_block, AW_cond, AW_skip, AW_exit, AW_ret, AW_scp, condR_true, condR_false, AThen_normal, AThen_ret, AThen_exit, ABlock_normal, ABlock_ret, ABlock_exit, AScope_normal, AScope_ret, AScope_exit, RetK_ret, RetK_normal, retAV_one, retAV_two, retAV_three, retAV_nil, RG_nil, RG_op, RG_guard, gdR_tt, gdR_ff, gdR_tf, gdR_ft, gdR_un, RG_call, callQ_clo, contK_ap, opR_some, RD_nil, RD_op0, RD_op1, opD0_some, opD1_some, RD_call, callQD_clo, RD_guard, gdD_tt, gdD_ff, gdD_tf, gdD_ft, gdD_un, psh_nil, psh_cons, Apt_nil, Apt_nilT, Apt_true, Apt_false, Dis_def, runT_val, runT_rd, runT_wr, runT_new, runT_mv, ex, put_some, put_none, ev_t, ev_c, argF_zero, argF_succ, set_g, set_n, cells_v, cells_sl, cells_agg, cells_own, cells_ptr, cells_clo, cells_eptr, cells_mp, putc, exBslice, lfill, exField, exIdxV, exIdxP, exBox, exAlloc, exLoad, exStore, exFieldA, exIdxA, exLen, exPick, exUn, exBeq, exMM, exSeq, seqGo, exExt, binV, intOp, subc, AV.solid, S0, encI, encB, h1, h2, h2', encIs]
      refine CallR.pure k1 (cl_cons hc cl_nil) hcy ?_
      simp [AW_seq, AW_reg, AW_regD, AW_block, AW_cond, AW_skip, AW_exit, AW_ret, AW_scp, condR_true, condR_false, AThen_normal, AThen_ret, AThen_exit, ABlock_normal, ABlock_ret, ABlock_exit, AScope_normal, AScope_ret, AScope_exit, RetK_ret, RetK_normal, retAV_one, retAV_two, retAV_three, retAV_nil, RG_nil, RG_op, RG_guard, gdR_tt, gdR_ff, gdR_tf, gdR_ft, gdR_un, RG_call, callQ_clo, contK_ap, opR_some, RD_nil, RD_op0, RD_op1, opD0_some, opD1_some, RD_call, callQD_clo, RD_guard, gdD_tt, gdD_ff, gdD_tf, gdD_ft, gdD_un, psh_nil, psh_cons, Apt_nil, Apt_nilT, Apt_true, Apt_false, Dis_def, runT_val, runT_rd, runT_wr, runT_new, runT_mv, ex, put_some, put_none, ev_t, ev_c, argF_zero, argF_succ, set_g, set_n, cells_v, cells_sl, cells_agg, cells_own, cells_ptr, cells_clo, cells_eptr, cells_mp, putc, exBslice, lfill, exField, exIdxV, exIdxP, exBox, exAlloc, exLoad, exStore, exFieldA, exIdxA, exLen, exPick, exUn, exBeq, exMM, exSeq, seqGo, exExt, binV, intOp, subc, AV.solid, S0, encI, encB]
      refine CallR.pure k3 (cl_cons c3 cl_nil) c4 ?_
      simp [AW_seq, AW_reg, AW_regD, AW_block, AW_cond, AW_skip, AW_exit, AW_ret, AW_scp, condR_true, condR_false, AThen_normal, AThen_ret, AThen_exit, ABlock_normal, ABlock_ret, ABlock_exit, AScope_normal, AScope_ret, AScope_exit, RetK_ret, RetK_normal, retAV_one, retAV_two, retAV_three, retAV_nil, RG_nil, RG_op, RG_guard, gdR_tt, gdR_ff, gdR_tf, gdR_ft, gdR_un, RG_call, callQ_clo, contK_ap, opR_some, RD_nil, RD_op0, RD_op1, opD0_some, opD1_some, RD_call, callQD_clo, RD_guard, gdD_tt, gdD_ff, gdD_tf, gdD_ft, gdD_un, psh_nil, psh_cons, Apt_nil, Apt_nilT, Apt_true, Apt_false, Dis_def, runT_val, runT_rd, runT_wr, runT_new, runT_mv, ex, put_some, put_none, ev_t, ev_c, argF_zero, argF_succ, set_g, set_n, cells_v, cells_sl, cells_agg, cells_own, cells_ptr, cells_clo, cells_eptr, cells_mp, putc, exBslice, lfill, exField, exIdxV, exIdxP, exBox, exAlloc, exLoad, exStore, exFieldA, exIdxA, exLen, exPick, exUn, exBeq, exMM, exSeq, seqGo, exExt, binV, intOp, subc, AV.solid, S0, encI, encB]
      refine rt_out (p := p) (l := l) (b2 := 0) (b5 := 18) (by omega) k4 k5 k6 ⟨⟨?_, ?_, ?_, ?_, ?_, ?_, ?_⟩, ?_⟩ (fun f S hs => ?_)
      · simp [put_some, argF_zero, argF_succ, encIs]
      · simp [put_some]
      · simp [put_some]
      · simp [put_some, encIs]
      · simp [put_some, encI]
      · simp [set_g, hx]
      · simp [set_g, hy]
      · simp [put_some, encI]
      · obtain ⟨e1, e2, e5, e6, e7, g2, g5⟩ := hs
        rw [hx] at g2
        rw [hy] at g5
        have d1 : ∀ n g, CallD P ft _ ⟨n, g⟩ [] _ := fun n g => CallD.kl k2 (cl_cons hcy cl_nil) hc
        have d2 : ∀ n g, CallD P fs _ ⟨n, g⟩ [] _ := fun n g => CallD.kl k7 (cl_cons hc (cl_cons hc cl_nil)) (closed_B true)
        have d3 : ∀ n g, CallD P fn _ ⟨n, g⟩ [] _ := fun n g => CallD.kl k9 (cl_cons hcy cl_nil) (closed_B (matP p [] 0 0))
        have d4 : ∀ n g, CallD P fn _ ⟨n, g⟩ [] _ := fun n g => CallD.kl k8 (cl_cons hc cl_nil) (closed_B (matP p [] 0 0))
        have zz : (matP p [] 0 0 == matP p [] 0 0) = true := by simp
        simp [AW_seq, AW_reg, AW_regD, AW_block, AW_cond, AW_skip, AW_exit, AW_ret, AW_scp, condR_true, condR_false, AThen_normal, AThen_ret, AThen_exit, ABlock_normal, ABlock_ret, ABlock_exit, AScope_normal, AScope_ret, AScope_exit, RetK_ret, RetK_normal, retAV_one, retAV_two, retAV_three, retAV_nil, RG_nil, RG_op, RG_guard, gdR_tt, gdR_ff, gdR_tf, gdR_ft, gdR_un, RG_call, callQ_clo, contK_ap, opR_some, RD_nil, RD_op0, RD_op1, opD0_some, opD1_some, RD_call, callQD_clo, RD_guard, gdD_tt, gdD_ff, gdD_tf, gdD_ft, gdD_un, psh_nil, psh_cons, Apt_nil, Apt_nilT, Apt_true, Apt_false, Dis_def, runT_val, runT_rd, runT_wr, runT_new, runT_mv, ex, put_some, put_none, ev_t, ev_c, argF_zero, argF_succ, set_g, set_n, cells_v, cells_sl, cells_agg, cells_own, cells_ptr, cells_clo, cells_eptr, cells_mp, putc, exBslice, lfill, exField, exIdxV, exIdxP, exBox, exAlloc, exLoad, exStore, exFieldA, exIdxA, exLen, exPick, exUn, exBeq, exMM, exSeq, seqGo, exExt, binV, intOp, subc, AV.solid, S0, encI, encB, e1, e2, e5, e6, e7, g2, g5]
        refine ⟨.agg [x1, x2, x3, x4], ⟨[], d1 _ _⟩, ?_⟩
        refine ⟨encB true, ⟨[], d2 _ _⟩, ?_⟩
        simp [AW_seq, AW_reg, AW_regD, AW_block, AW_cond, AW_skip, AW_exit, AW_ret, AW_scp, condR_true, condR_false, AThen_normal, AThen_ret, AThen_exit, ABlock_normal, ABlock_ret, ABlock_exit, AScope_normal, AScope_ret, AScope_exit, RetK_ret, RetK_normal, retAV_one, retAV_two, retAV_three, retAV_nil, RG_nil, RG_op, RG_guard, gdR_tt, gdR_ff, gdR_tf, gdR_ft, gdR_un, RG_call, callQ_clo, contK_ap, opR_some, RD_nil, RD_op0, RD_op1, opD0_some, opD1_some, RD_call, callQD_clo, RD_guard, gdD_tt, gdD_ff, gdD_tf, gdD_ft, gdD_un, psh_nil, psh_cons, Apt_nil, Apt_nilT, Apt_true, Apt_false, Dis_def, runT_val, runT_rd, runT_wr, runT_new, runT_mv, ex, put_some, put_none, ev_t, ev_c, argF_zero, argF_succ, set_g, set_n, cells_v, cells_sl, cells_agg, cells_own, cells_ptr, cells_clo, cells_eptr, cells_mp, putc, exBslice, lfill, exField, exIdxV, exIdxP, exBox, exAlloc, exLoad, exStore, exFieldA, exIdxA, exLen, exPick, exUn, exBeq, exMM, exSeq, seqGo, exExt, binV, intOp, subc, AV.solid, S0, encI, encB, e1, e2, e5, e6, e7, g2, g5]
        refine ⟨encB (matP p [] 0 0), ⟨[], d3 _ _⟩, ?_⟩
        simp [AW_seq, AW_reg, AW_regD, AW_block, AW_cond, AW_skip, AW_exit, AW_ret, AW_scp, condR_true, condR_false, AThen_normal, AThen_ret, AThen_exit, ABlock_normal, ABlock_ret, ABlock_exit, AScope_normal, AScope_ret, AScope_exit, RetK_ret, RetK_normal, retAV_one, retAV_two, retAV_three, retAV_nil, RG_nil, RG_op, RG_guard, gdR_tt, gdR_ff, gdR_tf, gdR_ft, gdR_un, RG_call, callQ_clo, contK_ap, opR_some, RD_nil, RD_op0, RD_op1, opD0_some, opD1_some, RD_call, callQD_clo, RD_guard, gdD_tt, gdD_ff, gdD_tf, gdD_ft, gdD_un, psh_nil, psh_cons, Apt_nil, Apt_nilT, Apt_true, Apt_false, Dis_def, runT_val, runT_rd, runT_wr, runT_new, runT_mv, ex, put_some, put_none, ev_t, ev_c, argF_zero, argF_succ, set_g, set_n, cells_v, cells_sl, cells_agg, cells_own, cells_ptr, cells_clo, cells_eptr, cells_mp, putc, exBslice, lfill, exField, exIdxV, exIdxP, exBox, exAlloc, exLoad, exStore, exFieldA, exIdxA, exLen, exPick, exUn, exBeq, exMM, exSeq, seqGo, exExt, binV, intOp, subc, AV.solid, S0, encI, encB, e1, e2, e5, e6, e7, g2, g5]
        refine ⟨encB (matP p [] 0 0), ⟨[], d4 _ _⟩, ?_⟩
        simp [AW_seq, AW_reg, AW_regD, AW_block, AW_cond, AW_skip, AW_exit, AW_ret, AW_scp, condR_true, condR_false, AThen_normal, AThen_ret, AThen_exit, ABlock_normal, ABlock_ret, ABlock_exit, AScope_normal, AScope_ret, AScope_exit, RetK_ret, RetK_normal, retAV_one, retAV_two, retAV_three, retAV_nil, RG_nil, RG_op, RG_guard, gdR_tt, gdR_ff, gdR_tf, gdR_ft, gdR_un, RG_call, callQ_clo, contK_ap, opR_some, RD_nil, RD_op0, RD_op1, opD0_some, opD1_some, RD_call, callQD_clo, RD_guard, gdD_tt, gdD_ff, gdD_tf, gdD_ft, gdD_un, psh_nil, psh_cons, Apt_nil, Apt_nilT, Apt_true, Apt_false, Dis_def, runT_val, runT_rd, runT_wr, runT_new, runT_mv, ex, put_some, put_none, ev_t, ev_c, argF_zero, argF_succ, set_g, set_n, cells_v, cells_sl, cells_agg, cells_own, cells_ptr, cells_clo, cells_eptr, cells_mp, putc, exBslice, lfill, exField, exIdxV, exIdxP, exBox, exAlloc, exLoad, exStore, exFieldA, exIdxA, exLen, exPick, exUn, exBeq, exMM, exSeq, seqGo, exExt, binV, intOp, subc, AV.solid, S0, encI, encB, zz]
        exact FzK_B true _
end Go.Rf

