import Derived.Test.YtgmbloldekkieaaRfB1
import Derived.Test.YtgmbloldekkieaaRfB7
import Derived.Test.YtgmbloldekkieaaRfB8
set_option linter.unusedVariables false
set_option linter.unusedSimpArgs false
namespace Go.Rf
def c_writes_tail : AC :=
  (.seq (.seq (.reg none [
   ⟨(some 53), .mv (.t 10), none, none⟩,
   ⟨(some 54), .len (.t 53), none, none⟩,
   ⟨(some 55), .bin .eql (.t 54) (.c (.v (.int .i64 0))), none, none⟩])
  (.cond (.t 55) (.seq (.seq (.reg none [
    ⟨(some 11), .mv (.c (.v (.int .i64 0))), none, none⟩])
   (.block 0 (.loop (.seq (.seq (.reg none [
      ⟨(some 56), .mv (.t 11), none, none⟩,
      ⟨(some 57), .mv (.t 0), none, none⟩,
      ⟨(some 58), .len (.t 57), none, none⟩,
      ⟨(some 59), .bin .lss (.t 56) (.t 58), none, none⟩])
     (.cond (.t 59) .skip (.exit 0)))
     (.seq (.block 1 (.seq (.reg none [
       ⟨(some 62), .mv (.t 0), none, none⟩,
       ⟨(some 63), .mv (.t 11), none, none⟩,
       ⟨(some 64), .idxA 1 (.t 62) (.t 63), none, none⟩,
       ⟨(some 65), .load none (.t 64), none, none⟩,
       ⟨(some 66), .bin .lss (.t 65) (.c (.v (.int .i64 0))), none, none⟩,
       ⟨(some 67), .mv (.t 66), none, none⟩,
       ⟨(some 68), .mv (.t 0), (some (67, false)), none⟩,
       ⟨(some 69), .mv (.t 11), (some (67, false)), none⟩,
       ⟨(some 70), .idxA 1 (.t 68) (.t 69), (some (67, false)), none⟩,
       ⟨(some 71), .load none (.t 70), (some (67, false)), none⟩,
       ⟨(some 72), .bin .gtr (.t 71) (.c (.v (.int .i64 1048576))), (some (67, false)), none⟩,
       ⟨(some 73), .pick (.t 67) (.c (.v (.bool true))) (.t 72), none, none⟩])
      (.cond (.t 73) (.seq (.reg none [
        ⟨(some 6), .mv (.c (.v (.bool true))), none, none⟩])
       .ret) .skip)))
     (.reg none [
      ⟨(some 60), .mv (.t 11), none, none⟩,
      ⟨(some 61), .bin .add (.t 60) (.c (.v (.int .i64 1))), none, none⟩,
      ⟨(some 11), .mv (.t 61), none, none⟩]))))))
   (.seq (.reg none [
    ⟨(some 74), .mv (.t 2), none, none⟩,
    ⟨(some 75), .bin .lss (.t 74) (.c (.v (.int .i64 1))), none, none⟩,
    ⟨(some 76), .mv (.t 75), none, none⟩,
    ⟨(some 77), .mv (.t 2), (some (76, false)), none⟩,
    ⟨(some 78), .mv (.t 0), (some (76, false)), none⟩,
    ⟨(some 79), .len (.t 78), (some (76, false)), none⟩,
    ⟨(some 80), .bin .geq (.t 77) (.t 79), (some (76, false)), none⟩,
    ⟨(some 81), .pick (.t 76) (.c (.v (.bool true))) (.t 80), none, none⟩,
    ⟨(some 6), .mv (.t 81), none, none⟩])
   .ret)) .skip))
  (.seq (.seq (.reg none [
   ⟨(some 12), .mv (.c (.v (.int .i64 0))), none, none⟩])
  (.block 2 (.loop (.seq (.seq (.reg none [
     ⟨(some 82), .mv (.t 12), none, none⟩,
     ⟨(some 83), .mv (.t 0), none, none⟩,
     ⟨(some 84), .len (.t 83), none, none⟩,
     ⟨(some 85), .bin .lss (.t 82) (.t 84), none, none⟩])
    (.cond (.t 85) .skip (.exit 2)))
    (.seq (.block 3 (.seq (.reg none [
      ⟨(some 13), .mv (.c (.v (.int .i64 0))), none, none⟩])
     (.seq (.seq (.reg none [
      ⟨(some 88), .mv (.t 12), none, none⟩,
      ⟨(some 89), .mv (.t 2), none, none⟩,
      ⟨(some 90), .bin .eql (.t 88) (.t 89), none, none⟩])
     (.cond (.t 90) (.reg none [
       ⟨(some 13), .mv (.c (.v (.int .i64 1))), none, none⟩]) .skip))
     (.seq (.reg (some []) [
      ⟨(some 91), .mv (.t 10), none, none⟩,
      ⟨(some 92), .len (.t 91), none, none⟩,
      ⟨(some 93), .mv (.t 0), none, none⟩,
      ⟨(some 94), .len (.t 93), none, none⟩,
      ⟨(some 95), .bin .neq (.t 92) (.t 94), none, none⟩,
      ⟨(some 96), .mv (.t 95), none, none⟩,
      ⟨(some 97), .mv (.t 10), (some (96, false)), none⟩,
      ⟨(some 98), .mv (.t 12), (some (96, false)), none⟩,
      ⟨(some 99), .idxA 1 (.t 97) (.t 98), (some (96, false)), none⟩,
      ⟨(some 100), .load none (.t 99), (some (96, false)), none⟩,
      ⟨(some 101), .mv (.t 0), (some (96, false)), none⟩,
      ⟨(some 102), .mv (.t 12), (some (96, false)), none⟩,
      ⟨(some 103), .idxA 1 (.t 101) (.t 102), (some (96, false)), none⟩,
      ⟨(some 104), .load none (.t 103), (some (96, false)), none⟩,
      ⟨(some 105), .bin .mul (.c (.v (.int .i64 2))) (.t 104), (some (96, false)), none⟩,
      ⟨(some 106), .mv (.t 13), (some (96, false)), none⟩,
      ⟨(some 107), .bin .add (.t 105) (.t 106), (some (96, false)), none⟩,
      ⟨(some 108), .bin .neq (.t 100) (.t 107), (some (96, false)), none⟩,
      ⟨(some 109), .pick (.t 96) (.c (.v (.bool true))) (.t 108), none, none⟩])
     (.cond (.t 109) (.seq (.reg none [
       ⟨(some 6), .mv (.c (.v (.bool false))), none, none⟩])
      .ret) .skip)))))
    (.reg none [
     ⟨(some 86), .mv (.t 12), none, none⟩,
     ⟨(some 87), .bin .add (.t 86) (.c (.v (.int .i64 1))), none, none⟩,
     ⟨(some 12), .mv (.t 87), none, none⟩]))))))
  (.seq (.reg none [
   ⟨(some 110), .mv (.t 2), none, none⟩,
   ⟨(some 111), .bin .geq (.t 110) (.c (.v (.int .i64 1))), none, none⟩,
   ⟨(some 112), .mv (.t 111), none, none⟩,
   ⟨(some 113), .mv (.t 2), (some (112, true)), none⟩,
   ⟨(some 114), .mv (.t 0), (some (112, true)), none⟩,
   ⟨(some 115), .len (.t 114), (some (112, true)), none⟩,
   ⟨(some 116), .bin .lss (.t 113) (.t 115), (some (112, true)), none⟩,
   ⟨(some 117), .pick (.t 112) (.t 116) (.c (.v (.bool false))), none, none⟩,
   ⟨(some 6), .mv (.t 117), none, none⟩])
  .ret)))
def c_caesuralaw18_PathWrites (f_caesuralaw18_alive f_caesuraref01_Ints f_path_Before f_path_Write : FuncId) : AC :=
  (.seq (.reg none [
   ⟨(some 6), .mv (.c (.v (.bool false))), none, none⟩])
  (.seq (.seq (.reg none [
   ⟨(some 14), .mv (.c .junk), none, (some ((.c (.clo f_caesuralaw18_alive [] [])), []))⟩,
   ⟨(some 15), .un .not (.t 14), none, none⟩])
  (.cond (.t 15) (.seq (.reg none [
    ⟨(some 6), .mv (.c (.v (.bool false))), none, none⟩])
   .ret) .skip))
  (.seq (.seq (.reg none [
   ⟨(some 16), .mv (.t 0), none, none⟩,
   ⟨(some 17), .len (.t 16), none, none⟩,
   ⟨(some 18), .bin .gtr (.t 17) (.c (.v (.int .i64 300))), none, none⟩,
   ⟨(some 19), .mv (.t 18), none, none⟩,
   ⟨(some 20), .mv (.t 1), (some (19, false)), none⟩,
   ⟨(some 21), .len (.t 20), (some (19, false)), none⟩,
   ⟨(some 22), .bin .gtr (.t 21) (.c (.v (.int .i64 300))), (some (19, false)), none⟩,
   ⟨(some 23), .pick (.t 19) (.c (.v (.bool true))) (.t 22), none, none⟩])
  (.cond (.t 23) (.seq (.reg none [
    ⟨(some 6), .mv (.c (.v (.bool true))), none, none⟩])
   .ret) .skip))
  (.seq (.reg none [
   ⟨(some 24), .mv (.t 0), none, none⟩,
   ⟨(some 25), .mv (.t 1), none, none⟩,
   ⟨(some 26), .mv (.c .junk), none, (some ((.c (.clo f_caesuraref01_Ints [] [])), [(.t 24), (.t 25)]))⟩,
   ⟨(some 7), .mv (.t 26), none, none⟩])
  (.seq (.reg none [
   ⟨(some 27), .mv (.t 0), none, none⟩,
   ⟨(some 28), .mv (.t 1), none, none⟩,
   ⟨(some 29), .mv (.c .junk), none, (some ((.c (.clo f_path_Before [] [])), [(.t 27), (.t 28)]))⟩,
   ⟨(some 30), .mv (.t 1), none, none⟩,
   ⟨(some 31), .mv (.t 0), none, none⟩,
   ⟨(some 32), .mv (.c .junk), none, (some ((.c (.clo f_path_Before [] [])), [(.t 30), (.t 31)]))⟩,
   ⟨(some 8), .mv (.t 29), none, none⟩,
   ⟨(some 9), .mv (.t 32), none, none⟩])
  (.seq (.seq (.reg none [
   ⟨(some 33), .mv (.t 8), none, none⟩,
   ⟨(some 34), .mv (.t 33), none, none⟩,
   ⟨(some 35), .mv (.t 9), (some (34, true)), none⟩,
   ⟨(some 36), .pick (.t 34) (.t 35) (.c (.v (.bool false))), none, none⟩,
   ⟨(some 37), .mv (.t 36), none, none⟩,
   ⟨(some 38), .mv (.t 8), (some (37, false)), none⟩,
   ⟨(some 39), .mv (.t 38), (some (37, false)), none⟩,
   ⟨(some 40), .mv (.t 9), (some (39, false)), none⟩,
   ⟨(some 41), .pick (.t 39) (.c (.v (.bool true))) (.t 40), (some (37, false)), none⟩,
   ⟨(some 42), .mv (.t 7), (some (37, false)), none⟩,
   ⟨(some 43), .beq false (.t 41) (.t 42), (some (37, false)), none⟩,
   ⟨(some 44), .pick (.t 37) (.c (.v (.bool true))) (.t 43), none, none⟩,
   ⟨(some 45), .mv (.t 44), none, none⟩,
   ⟨(some 46), .mv (.t 0), (some (45, false)), none⟩,
   ⟨(some 47), .mv (.t 0), (some (45, false)), none⟩,
   ⟨(some 48), .mv (.c .junk), (some (45, false)), (some ((.c (.clo f_path_Before [] [])), [(.t 46), (.t 47)]))⟩,
   ⟨(some 49), .pick (.t 45) (.c (.v (.bool true))) (.t 48), none, none⟩])
  (.cond (.t 49) (.seq (.reg none [
    ⟨(some 6), .mv (.c (.v (.bool false))), none, none⟩])
   .ret) .skip))
  (.seq (.reg none [
   ⟨(some 50), .mv (.t 0), none, none⟩,
   ⟨(some 51), .mv (.t 2), none, none⟩,
   ⟨(some 52), .mv (.c .junk), none, (some ((.c (.clo f_path_Write [] [])), [(.t 50), (.t 51)]))⟩,
   ⟨(some 10), .mv (.t 52), none, none⟩])
  c_writes_tail)))))))
/-! ### which of two lists stands ahead -/
theorem cmpI_swap (x y : Int) : cmpI y x = - cmpI x y := by unfold cmpI; split <;> split <;> first | omega | rfl | (split <;> omega)
theorem cmpI_zero {x y : Int} : cmpI x y = 0 ↔ x = y := by unfold cmpI; split <;> (try split) <;> omega
theorem cmpL_swap : ∀ a b : List Int, cmpL b a = - cmpL a b
  | [], [] => rfl
  | [], _ :: _ => rfl
  | _ :: _, [] => rfl
  | x :: a, y :: b => by
    simp only [cmpL]
    rw [cmpI_swap x y, cmpL_swap a b]
    split <;> split <;> first | rfl | omega
theorem cmpL_zero : ∀ a b : List Int, cmpL a b = 0 ↔ a = b
  | [], [] => by simp [cmpL]
  | [], _ :: _ => by simp [cmpL]
  | _ :: _, [] => by simp [cmpL]
  | x :: a, y :: b => by
    simp only [cmpL]
    split
    · rename_i h
      constructor
      · intro h1; exact (h h1).elim
      · intro h1; cases h1; exact (h (cmpI_zero.mpr rfl)).elim
    · rename_i h
      have hxy := cmpI_zero.mp (Decidable.not_not.mp h)
      subst hxy
      rw [cmpL_zero a b]; simp
def ordL (a b : List Int) : Int := orL [cmpI a.length b.length, cmpL a b]
theorem ordL_def (a b : List Int) : ordL a b = if cmpI a.length b.length ≠ 0 then cmpI a.length b.length else cmpL a b := by
  simp only [ordL, orL]
  split
  · rfl
  · split
    · rfl
    · rename_i h; exact (Decidable.not_not.mp h).symm
theorem ordL_swap (a b : List Int) : ordL b a = - ordL a b := by
  rw [ordL_def, ordL_def, cmpI_swap (a.length) (b.length), cmpL_swap a b]
  split <;> split <;> first | rfl | omega
theorem ordL_zero (a b : List Int) : ordL a b = 0 ↔ a = b := by
  rw [ordL_def]
  split
  · rename_i h
    constructor
    · intro h1; exact (h h1).elim
    · intro h1; subst h1; exact (h (cmpI_zero.mpr rfl)).elim
  · exact cmpL_zero a b
theorem beforeS_eq (a b : List Int) : beforeS a b = decide (ordL a b < 0) := rfl
theorem beforeS_self (a : List Int) : beforeS a a = false := by
  rw [beforeS_eq]; have := (ordL_zero a a).mpr rfl; simp; omega
theorem beforeS_either {a b : List Int} (h : a ≠ b) : (beforeS a b = true ∧ beforeS b a = false) ∨ (beforeS a b = false ∧ beforeS b a = true) := by
  have h1 := ordL_swap a b
  have h2 : ordL a b ≠ 0 := fun e => h ((ordL_zero a b).mp e)
  rw [beforeS_eq, beforeS_eq]
  by_cases h3 : ordL a b < 0
  · left; simp; omega
  · right; simp; omega

def wtI (a : List Int) (place : Int) (m : Nat) (f : AF) (S : St) : Prop :=
  ∃ i : Nat, i ≤ a.length ∧ m = a.length - i ∧ f 11 = encI i ∧ f 0 = encIs a ∧ f 2 = encI place ∧ (a.take i).any oddS = false
def wtJ (a : List Int) (place : Int) (m : Nat) (f : AF) (S : St) : Prop :=
  ∃ i : Nat, i ≤ a.length ∧ m = a.length - i ∧ f 12 = encI i ∧ f 0 = encIs a ∧ f 2 = encI place ∧ f 10 = encIs (wrL place 0 a)
theorem wrL_get (place : Int) : ∀ (l : List Int) (i k : Nat) (h : k < l.length) (h' : k < (wrL place i l).length), (wrL place i l)[k] = 2 * l[k] + one1 place (i + k)
  | s :: l, i, 0, h, h' => by simp [wrL]
  | s :: l, i, k + 1, h, h' => by
    simp only [wrL, List.getElem_cons_succ]
    rw [wrL_get place l (i + 1) k (by simpa using h)]
    congr 2; omega
def smallS (s : Int) : Prop := -9223372036854775808 ≤ s ∧ s ≤ 9223372036854775807
section
variable {P : Program} {fl fi fb fw : FuncId} {a b : List Int} {place : Int}
theorem writes_tail (ha : a.length ≤ 300) {f : AF} {S : St} (h0 : f 0 = encIs a) (h2 : f 2 = encI place) (h10 : f 10 = encIs (writeS a place)) : AW P c_writes_tail (RetK [6] (FzK (encB true))) f S := by
  by_cases hw : 1 ≤ place ∧ place < a.length ∧ a.any oddS = false
  · have hws : writeS a place = wrL place 0 a := by unfold writeS; rw [if_pos hw]
    have hne : ¬ ((a.length : Int) = 0) := by omega
    have hbe : ((a.length : Int) == 0) = false := beq_false_of_ne hne
    simp [AW_seq, AW_reg, AW_regD, AW_block, AW_cond, AW_skip, AW_exit, AW_ret, AW_scp, condR_true, condR_false, AThen_normal, AThen_ret, AThen_exit, ABlock_normal, ABlock_ret, ABlock_exit, AScope_normal, AScope_ret, AScope_exit, RetK_ret, RetK_normal, retAV_one, retAV_two, retAV_three, retAV_nil, RG_nil, RG_op, RG_guard, gdR_tt, gdR_ff, gdR_tf, gdR_ft, gdR_un, RG_call, callQ_clo, contK_ap, opR_some, RD_nil, RD_op0, RD_op1, opD0_some, opD1_some, RD_call, callQD_clo, RD_guard, gdD_tt, gdD_ff, gdD_tf, gdD_ft, gdD_un, psh_nil, psh_cons, Apt_nil, Apt_nilT, Apt_true, Apt_false, Dis_def, runT_val, runT_rd, runT_wr, runT_new, runT_mv, ex, put_some, put_none, ev_t, ev_c, argF_zero, argF_succ, set_g, set_n, cells_v, cells_sl, cells_agg, cells_own, cells_ptr, cells_clo, cells_eptr, cells_mp, putc, exBslice, lfill, exField, exIdxV, exIdxP, exBox, exAlloc, exLoad, exStore, exFieldA, exIdxA, exLen, exPick, exUn, exBeq, exMM, exSeq, seqGo, exExt, binV, intOp, subc, AV.solid, S0, encI, encB, c_writes_tail, h0, h2, h10, hws, encIs, wrL_length, hne, hbe]
    refine AW_loop (wtJ a place) a.length ?_ ?_
    · refine ⟨0, by omega, by omega, ?_, ?_, ?_, ?_⟩ <;> simp [put_some, h0, h2, h10, hws, encI, encIs]
    · rintro m f S ⟨i, hi, rfl, e12, e0, e2, e10⟩
      by_cases hlt : i < a.length
      · have hodd : oddS a[i] = false := by
          have := List.any_eq_false.mp hw.2.2 a[i] (List.getElem_mem hlt)
          simpa using this
        simp only [oddS, Bool.or_eq_false_iff, decide_eq_false_iff_not] at hodd
        have hlw : i < (wrL place 0 a).length := by rw [wrL_length]; exact hlt
        have hg := wrL_get place a 0 i hlt hlw
        rw [Nat.zero_add] at hg
        have h9 : ((a.length : Int) != a.length) = false := by simp
        have hm2 : IntKind.i64.wrap (2 * a[i]) = 2 * a[i] := wrap_in _ (by omega)
        by_cases hp : (i : Int) = place
        · have hpe : ((i : Int) == place) = true := by simp [hp]
          have ho : one1 place i = 1 := by simp [one1, hp]
          rw [ho] at hg
          have h8 : ((wrL place 0 a)[i] != 2 * a[i] + 1) = false := by simp [hg]
          have hm3 : IntKind.i64.wrap (2 * a[i] + 1) = 2 * a[i] + 1 := wrap_in _ (by omega)
          simp [AW_seq, AW_reg, AW_regD, AW_block, AW_cond, AW_skip, AW_exit, AW_ret, AW_scp, condR_true, condR_false, AThen_normal, AThen_ret, AThen_exit, ABlock_normal, ABlock_ret, ABlock_exit, AScope_normal, AScope_ret, AScope_exit, RetK_ret, RetK_normal, retAV_one, retAV_two, retAV_three, retAV_nil, RG_nil, RG_op, RG_guard, gdR_tt, gdR_ff, gdR_tf, gdR_ft, gdR_un, RG_call, callQ_clo, contK_ap, opR_some, RD_nil, RD_op0, RD_op1, opD0_some, opD1_some, RD_call, callQD_clo, RD_guard, gdD_tt, gdD_ff, gdD_tf, gdD_ft, gdD_un, psh_nil, psh_cons, Apt_nil, Apt_nilT, Apt_true, Apt_false, Dis_def, runT_val, runT_rd, runT_wr, runT_new, runT_mv, ex, put_some, put_none, ev_t, ev_c, argF_zero, argF_succ, set_g, set_n, cells_v, cells_sl, cells_agg, cells_own, cells_ptr, cells_clo, cells_eptr, cells_mp, putc, exBslice, lfill, exField, exIdxV, exIdxP, exBox, exAlloc, exLoad, exStore, exFieldA, exIdxA, exLen, exPick, exUn, exBeq, exMM, exSeq, seqGo, exExt, binV, intOp, subc, AV.solid, S0, encI, encB, e12, e0, e2, e10, encIs, hlt, hlw, hpe, h9, h8, hm2, hm3, wrL_length, hg]
          rw [wrap_in _ (by omega)]
          exact ⟨a.length - (i + 1), by omega, i + 1, by omega, rfl, by simp [put_some, encI], by simp [put_some, e0, encIs], by simp [put_some, e2, encI], by simp [put_some, e10, encIs]⟩
        · have hpe : ((i : Int) == place) = false := by simp [hp]
          have ho : one1 place i = 0 := by simp [one1, hp]
          rw [ho] at hg
          have h8 : ((wrL place 0 a)[i] != 2 * a[i]) = false := by simp [hg]
          simp [AW_seq, AW_reg, AW_regD, AW_block, AW_cond, AW_skip, AW_exit, AW_ret, AW_scp, condR_true, condR_false, AThen_normal, AThen_ret, AThen_exit, ABlock_normal, ABlock_ret, ABlock_exit, AScope_normal, AScope_ret, AScope_exit, RetK_ret, RetK_normal, retAV_one, retAV_two, retAV_three, retAV_nil, RG_nil, RG_op, RG_guard, gdR_tt, gdR_ff, gdR_tf, gdR_ft, gdR_un, RG_call, callQ_clo, contK_ap, opR_some, RD_nil, RD_op0, RD_op1, opD0_some, opD1_some, RD_call, callQD_clo, RD_guard, gdD_tt, gdD_ff, gdD_tf, gdD_ft, gdD_un, psh_nil, psh_cons, Apt_nil, Apt_nilT, Apt_true, Apt_false, Dis_def, runT_val, runT_rd, runT_wr, runT_new, runT_mv, ex, put_some, put_none, ev_t, ev_c, argF_zero, argF_succ, set_g, set_n, cells_v, cells_sl, cells_agg, cells_own, cells_ptr, cells_clo, cells_eptr, cells_mp, putc, exBslice, lfill, exField, exIdxV, exIdxP, exBox, exAlloc, exLoad, exStore, exFieldA, exIdxA, exLen, exPick, exUn, exBeq, exMM, exSeq, seqGo, exExt, binV, intOp, subc, AV.solid, S0, encI, encB, e12, e0, e2, e10, encIs, hlt, hlw, hpe, h9, h8, hm2, wrL_length, hg]
          rw [wrap_in _ (by omega)]
          exact ⟨a.length - (i + 1), by omega, i + 1, by omega, rfl, by simp [put_some, encI], by simp [put_some, e0, encIs], by simp [put_some, e2, encI], by simp [put_some, e10, encIs]⟩
      · have : i = a.length := by omega
        subst this
        have h1 := hw.1
        have h3 := hw.2.1
        simp [AW_seq, AW_reg, AW_regD, AW_block, AW_cond, AW_skip, AW_exit, AW_ret, AW_scp, condR_true, condR_false, AThen_normal, AThen_ret, AThen_exit, ABlock_normal, ABlock_ret, ABlock_exit, AScope_normal, AScope_ret, AScope_exit, RetK_ret, RetK_normal, retAV_one, retAV_two, retAV_three, retAV_nil, RG_nil, RG_op, RG_guard, gdR_tt, gdR_ff, gdR_tf, gdR_ft, gdR_un, RG_call, callQ_clo, contK_ap, opR_some, RD_nil, RD_op0, RD_op1, opD0_some, opD1_some, RD_call, callQD_clo, RD_guard, gdD_tt, gdD_ff, gdD_tf, gdD_ft, gdD_un, psh_nil, psh_cons, Apt_nil, Apt_nilT, Apt_true, Apt_false, Dis_def, runT_val, runT_rd, runT_wr, runT_new, runT_mv, ex, put_some, put_none, ev_t, ev_c, argF_zero, argF_succ, set_g, set_n, cells_v, cells_sl, cells_agg, cells_own, cells_ptr, cells_clo, cells_eptr, cells_mp, putc, exBslice, lfill, exField, exIdxV, exIdxP, exBox, exAlloc, exLoad, exStore, exFieldA, exIdxA, exLen, exPick, exUn, exBeq, exMM, exSeq, seqGo, exExt, binV, intOp, subc, AV.solid, S0, encI, encB, e12, e0, e2, e10, encIs, h1, h3]
        exact FzK_B true _
  · have hws : writeS a place = [] := by unfold writeS; rw [if_neg hw]
    simp [AW_seq, AW_reg, AW_regD, AW_block, AW_cond, AW_skip, AW_exit, AW_ret, AW_scp, condR_true, condR_false, AThen_normal, AThen_ret, AThen_exit, ABlock_normal, ABlock_ret, ABlock_exit, AScope_normal, AScope_ret, AScope_exit, RetK_ret, RetK_normal, retAV_one, retAV_two, retAV_three, retAV_nil, RG_nil, RG_op, RG_guard, gdR_tt, gdR_ff, gdR_tf, gdR_ft, gdR_un, RG_call, callQ_clo, contK_ap, opR_some, RD_nil, RD_op0, RD_op1, opD0_some, opD1_some, RD_call, callQD_clo, RD_guard, gdD_tt, gdD_ff, gdD_tf, gdD_ft, gdD_un, psh_nil, psh_cons, Apt_nil, Apt_nilT, Apt_true, Apt_false, Dis_def, runT_val, runT_rd, runT_wr, runT_new, runT_mv, ex, put_some, put_none, ev_t, ev_c, argF_zero, argF_succ, set_g, set_n, cells_v, cells_sl, cells_agg, cells_own, cells_ptr, cells_clo, cells_eptr, cells_mp, putc, exBslice, lfill, exField, exIdxV, exIdxP, exBox, exAlloc, exLoad, exStore, exFieldA, exIdxA, exLen, exPick, exUn, exBeq, exMM, exSeq, seqGo, exExt, binV, intOp, subc, AV.solid, S0, encI, encB, c_writes_tail, h0, h2, h10, hws, encIs]
    refine AW_loop (wtI a place) a.length ?_ ?_
    · refine ⟨0, by omega, by omega, ?_, ?_, ?_, by simp⟩ <;> simp [put_some, h0, h2, encI, encIs]
    · rintro m f S ⟨i, hi, rfl, e11, e0, e2, hno⟩
      by_cases hlt : i < a.length
      · by_cases h3 : a[i] < 0
        · simp [AW_seq, AW_reg, AW_regD, AW_block, AW_cond, AW_skip, AW_exit, AW_ret, AW_scp, condR_true, condR_false, AThen_normal, AThen_ret, AThen_exit, ABlock_normal, ABlock_ret, ABlock_exit, AScope_normal, AScope_ret, AScope_exit, RetK_ret, RetK_normal, retAV_one, retAV_two, retAV_three, retAV_nil, RG_nil, RG_op, RG_guard, gdR_tt, gdR_ff, gdR_tf, gdR_ft, gdR_un, RG_call, callQ_clo, contK_ap, opR_some, RD_nil, RD_op0, RD_op1, opD0_some, opD1_some, RD_call, callQD_clo, RD_guard, gdD_tt, gdD_ff, gdD_tf, gdD_ft, gdD_un, psh_nil, psh_cons, Apt_nil, Apt_nilT, Apt_true, Apt_false, Dis_def, runT_val, runT_rd, runT_wr, runT_new, runT_mv, ex, put_some, put_none, ev_t, ev_c, argF_zero, argF_succ, set_g, set_n, cells_v, cells_sl, cells_agg, cells_own, cells_ptr, cells_clo, cells_eptr, cells_mp, putc, exBslice, lfill, exField, exIdxV, exIdxP, exBox, exAlloc, exLoad, exStore, exFieldA, exIdxA, exLen, exPick, exUn, exBeq, exMM, exSeq, seqGo, exExt, binV, intOp, subc, AV.solid, S0, encI, encB, e11, e0, e2, encIs, hlt, h3]
          exact FzK_B true _
        · by_cases h4 : 1048576 < a[i]
          · simp [AW_seq, AW_reg, AW_regD, AW_block, AW_cond, AW_skip, AW_exit, AW_ret, AW_scp, condR_true, condR_false, AThen_normal, AThen_ret, AThen_exit, ABlock_normal, ABlock_ret, ABlock_exit, AScope_normal, AScope_ret, AScope_exit, RetK_ret, RetK_normal, retAV_one, retAV_two, retAV_three, retAV_nil, RG_nil, RG_op, RG_guard, gdR_tt, gdR_ff, gdR_tf, gdR_ft, gdR_un, RG_call, callQ_clo, contK_ap, opR_some, RD_nil, RD_op0, RD_op1, opD0_some, opD1_some, RD_call, callQD_clo, RD_guard, gdD_tt, gdD_ff, gdD_tf, gdD_ft, gdD_un, psh_nil, psh_cons, Apt_nil, Apt_nilT, Apt_true, Apt_false, Dis_def, runT_val, runT_rd, runT_wr, runT_new, runT_mv, ex, put_some, put_none, ev_t, ev_c, argF_zero, argF_succ, set_g, set_n, cells_v, cells_sl, cells_agg, cells_own, cells_ptr, cells_clo, cells_eptr, cells_mp, putc, exBslice, lfill, exField, exIdxV, exIdxP, exBox, exAlloc, exLoad, exStore, exFieldA, exIdxA, exLen, exPick, exUn, exBeq, exMM, exSeq, seqGo, exExt, binV, intOp, subc, AV.solid, S0, encI, encB, e11, e0, e2, encIs, hlt, h3, h4]
            exact FzK_B true _
          · simp [AW_seq, AW_reg, AW_regD, AW_block, AW_cond, AW_skip, AW_exit, AW_ret, AW_scp, condR_true, condR_false, AThen_normal, AThen_ret, AThen_exit, ABlock_normal, ABlock_ret, ABlock_exit, AScope_normal, AScope_ret, AScope_exit, RetK_ret, RetK_normal, retAV_one, retAV_two, retAV_three, retAV_nil, RG_nil, RG_op, RG_guard, gdR_tt, gdR_ff, gdR_tf, gdR_ft, gdR_un, RG_call, callQ_clo, contK_ap, opR_some, RD_nil, RD_op0, RD_op1, opD0_some, opD1_some, RD_call, callQD_clo, RD_guard, gdD_tt, gdD_ff, gdD_tf, gdD_ft, gdD_un, psh_nil, psh_cons, Apt_nil, Apt_nilT, Apt_true, Apt_false, Dis_def, runT_val, runT_rd, runT_wr, runT_new, runT_mv, ex, put_some, put_none, ev_t, ev_c, argF_zero, argF_succ, set_g, set_n, cells_v, cells_sl, cells_agg, cells_own, cells_ptr, cells_clo, cells_eptr, cells_mp, putc, exBslice, lfill, exField, exIdxV, exIdxP, exBox, exAlloc, exLoad, exStore, exFieldA, exIdxA, exLen, exPick, exUn, exBeq, exMM, exSeq, seqGo, exExt, binV, intOp, subc, AV.solid, S0, encI, encB, e11, e0, e2, encIs, hlt, h3, h4]
            rw [wrap_in _ (by omega)]
            refine ⟨a.length - (i + 1), by omega, i + 1, by omega, rfl, by simp [put_some, encI], by simp [put_some, e0, encIs], by simp [put_some, e2, encI], ?_⟩
            rw [any_take_succ _ _ _ hlt, hno]
            simp [oddS]; omega
      · have hall : a.any oddS = false := by rw [List.take_of_length_le (by omega)] at hno; exact hno
        by_cases h5 : place < 1
        · simp [AW_seq, AW_reg, AW_regD, AW_block, AW_cond, AW_skip, AW_exit, AW_ret, AW_scp, condR_true, condR_false, AThen_normal, AThen_ret, AThen_exit, ABlock_normal, ABlock_ret, ABlock_exit, AScope_normal, AScope_ret, AScope_exit, RetK_ret, RetK_normal, retAV_one, retAV_two, retAV_three, retAV_nil, RG_nil, RG_op, RG_guard, gdR_tt, gdR_ff, gdR_tf, gdR_ft, gdR_un, RG_call, callQ_clo, contK_ap, opR_some, RD_nil, RD_op0, RD_op1, opD0_some, opD1_some, RD_call, callQD_clo, RD_guard, gdD_tt, gdD_ff, gdD_tf, gdD_ft, gdD_un, psh_nil, psh_cons, Apt_nil, Apt_nilT, Apt_true, Apt_false, Dis_def, runT_val, runT_rd, runT_wr, runT_new, runT_mv, ex, put_some, put_none, ev_t, ev_c, argF_zero, argF_succ, set_g, set_n, cells_v, cells_sl, cells_agg, cells_own, cells_ptr, cells_clo, cells_eptr, cells_mp, putc, exBslice, lfill, exField, exIdxV, exIdxP, exBox, exAlloc, exLoad, exStore, exFieldA, exIdxA, exLen, exPick, exUn, exBeq, exMM, exSeq, seqGo, exExt, binV, intOp, subc, AV.solid, S0, encI, encB, e11, e0, e2, encIs, hlt, h5]
          exact FzK_B true _
        · have h6 : (a.length : Int) ≤ place := by
            by_cases h7 : (a.length : Int) ≤ place
            · exact h7
            · exact (hw ⟨by omega, by omega, hall⟩).elim
          simp [AW_seq, AW_reg, AW_regD, AW_block, AW_cond, AW_skip, AW_exit, AW_ret, AW_scp, condR_true, condR_false, AThen_normal, AThen_ret, AThen_exit, ABlock_normal, ABlock_ret, ABlock_exit, AScope_normal, AScope_ret, AScope_exit, RetK_ret, RetK_normal, retAV_one, retAV_two, retAV_three, retAV_nil, RG_nil, RG_op, RG_guard, gdR_tt, gdR_ff, gdR_tf, gdR_ft, gdR_un, RG_call, callQ_clo, contK_ap, opR_some, RD_nil, RD_op0, RD_op1, opD0_some, opD1_some, RD_call, callQD_clo, RD_guard, gdD_tt, gdD_ff, gdD_tf, gdD_ft, gdD_un, psh_nil, psh_cons, Apt_nil, Apt_nilT, Apt_true, Apt_false, Dis_def, runT_val, runT_rd, runT_wr, runT_new, runT_mv, ex, put_some, put_none, ev_t, ev_c, argF_zero, argF_succ, set_g, set_n, cells_v, cells_sl, cells_agg, cells_own, cells_ptr, cells_clo, cells_eptr, cells_mp, putc, exBslice, lfill, exField, exIdxV, exIdxP, exBox, exAlloc, exLoad, exStore, exFieldA, exIdxA, exLen, exPick, exUn, exBeq, exMM, exSeq, seqGo, exExt, binV, intOp, subc, AV.solid, S0, encI, encB, e11, e0, e2, encIs, hlt, h5, h6]
          exact FzK_B true _
theorem caesuralaw18_PathWrites_body (hl : PureC P fl [] (encB true)) (hi : ∀ a b, Len a → Len b → PureC P fi [encIs a, encIs b] (encB (a == b))) (hb : ∀ a b, Len a → Len b → PureC P fb [encIs a, encIs b] (encB (beforeS a b)))
    (hw : ∀ s p, s.length ≤ 1000000 → PureC P fw [encIs s, encI p] (encIs (writeS s p))) (a b : List Int) (place : Int) :
    AW P (c_caesuralaw18_PathWrites fl fi fb fw) (RetK [6] (FzK (encB true))) (argF [encIs a, encIs b, encI place]) S0 := by
  simp [AW_seq, AW_reg, AW_regD, AW_block, AW_cond, AW_skip, AW_exit, AW_ret, AW_scp, condR_true, condR_false, AThen_normal, AThen_ret, AThen_exit, ABlock_normal, ABlock_ret, ABlock_exit, AScope_normal, AScope_ret, AScope_exit, RetK_ret, RetK_normal, retAV_one, retAV_two, retAV_three, retAV_nil, RG_nil, RG_op, RG_guard, gdR_tt, gdR_ff, gdR_tf, gdR_ft, gdR_un, RG_call, callQ_clo, contK_ap, opR_some, RD_nil, RD_op0, RD_op1, opD0_some, opD1_some, RD_call, callQD_clo, RD_guard, gdD_tt, gdD_ff, gdD_tf, gdD_ft, gdD_un, psh_nil, psh_cons, Apt_nil, Apt_nilT, Apt_true, Apt_false, Dis_def, runT_val, runT_rd, runT_wr, runT_new, runT_mv, ex, put_some, put_none, ev_t, ev_c, argF_zero, argF_succ, set_g, set_n, cells_v, cells_sl, cells_agg, cells_own, cells_ptr, cells_clo, cells_eptr, cells_mp, putc, exBslice, lfill, exField, exIdxV, exIdxP, exBox, exAlloc, exLoad, exStore, exFieldA, exIdxA, exLen, exPick, exUn, exBeq, exMM, exSeq, seqGo, exExt, binV, intOp, subc, AV.solid, S0, encI, encB, c_caesuralaw18_PathWrites, encIs]
  refine CallR.pure hl cl_nil (closed_B _) ?_
  by_cases ha : 300 < a.length
  · have ha' : (300 : Int) < a.length := by omega
    simp [AW_seq, AW_reg, AW_regD, AW_block, AW_cond, AW_skip, AW_exit, AW_ret, AW_scp, condR_true, condR_false, AThen_normal, AThen_ret, AThen_exit, ABlock_normal, ABlock_ret, ABlock_exit, AScope_normal, AScope_ret, AScope_exit, RetK_ret, RetK_normal, retAV_one, retAV_two, retAV_three, retAV_nil, RG_nil, RG_op, RG_guard, gdR_tt, gdR_ff, gdR_tf, gdR_ft, gdR_un, RG_call, callQ_clo, contK_ap, opR_some, RD_nil, RD_op0, RD_op1, opD0_some, opD1_some, RD_call, callQD_clo, RD_guard, gdD_tt, gdD_ff, gdD_tf, gdD_ft, gdD_un, psh_nil, psh_cons, Apt_nil, Apt_nilT, Apt_true, Apt_false, Dis_def, runT_val, runT_rd, runT_wr, runT_new, runT_mv, ex, put_some, put_none, ev_t, ev_c, argF_zero, argF_succ, set_g, set_n, cells_v, cells_sl, cells_agg, cells_own, cells_ptr, cells_clo, cells_eptr, cells_mp, putc, exBslice, lfill, exField, exIdxV, exIdxP, exBox, exAlloc, exLoad, exStore, exFieldA, exIdxA, exLen, exPick, exUn, exBeq, exMM, exSeq, seqGo, exExt, binV, intOp, subc, AV.solid, S0, encI, encB, ha, ha']
    exact FzK_B true _
  · have ha' : ¬ (300 : Int) < a.length := by omega
    by_cases hbl : 300 < b.length
    · have hb' : (300 : Int) < b.length := by omega
      simp [AW_seq, AW_reg, AW_regD, AW_block, AW_cond, AW_skip, AW_exit, AW_ret, AW_scp, condR_true, condR_false, AThen_normal, AThen_ret, AThen_exit, ABlock_normal, ABlock_ret, ABlock_exit, AScope_normal, AScope_ret, AScope_exit, RetK_ret, RetK_normal, retAV_one, retAV_two, retAV_three, retAV_nil, RG_nil, RG_op, RG_guard, gdR_tt, gdR_ff, gdR_tf, gdR_ft, gdR_un, RG_call, callQ_clo, contK_ap, opR_some, RD_nil, RD_op0, RD_op1, opD0_some, opD1_some, RD_call, callQD_clo, RD_guard, gdD_tt, gdD_ff, gdD_tf, gdD_ft, gdD_un, psh_nil, psh_cons, Apt_nil, Apt_nilT, Apt_true, Apt_false, Dis_def, runT_val, runT_rd, runT_wr, runT_new, runT_mv, ex, put_some, put_none, ev_t, ev_c, argF_zero, argF_succ, set_g, set_n, cells_v, cells_sl, cells_agg, cells_own, cells_ptr, cells_clo, cells_eptr, cells_mp, putc, exBslice, lfill, exField, exIdxV, exIdxP, exBox, exAlloc, exLoad, exStore, exFieldA, exIdxA, exLen, exPick, exUn, exBeq, exMM, exSeq, seqGo, exExt, binV, intOp, subc, AV.solid, S0, encI, encB, ha, ha', hbl, hb']
      exact FzK_B true _
    · have hb' : ¬ (300 : Int) < b.length := by omega
      have la : Len a := by unfold Len; omega
      have lb : Len b := by unfold Len; omega
      simp [AW_seq, AW_reg, AW_regD, AW_block, AW_cond, AW_skip, AW_exit, AW_ret, AW_scp, condR_true, condR_false, AThen_normal, AThen_ret, AThen_exit, ABlock_normal, ABlock_ret, ABlock_exit, AScope_normal, AScope_ret, AScope_exit, RetK_ret, RetK_normal, retAV_one, retAV_two, retAV_three, retAV_nil, RG_nil, RG_op, RG_guard, gdR_tt, gdR_ff, gdR_tf, gdR_ft, gdR_un, RG_call, callQ_clo, contK_ap, opR_some, RD_nil, RD_op0, RD_op1, opD0_some, opD1_some, RD_call, callQD_clo, RD_guard, gdD_tt, gdD_ff, gdD_tf, gdD_ft, gdD_un, psh_nil, psh_cons, Apt_nil, Apt_nilT, Apt_true, Apt_false, Dis_def, runT_val, runT_rd, runT_wr, runT_new, runT_mv, ex, put_some, put_none, ev_t, ev_c, argF_zero, argF_succ, set_g, set_n, cells_v, cells_sl, cells_agg, cells_own, cells_ptr, cells_clo, cells_eptr, cells_mp, putc, exBslice, lfill, exField, exIdxV, exIdxP, exBox, exAlloc, exLoad, exStore, exFieldA, exIdxA, exLen, exPick, exUn, exBeq, exMM, exSeq, seqGo, exExt, binV, intOp, subc, AV.solid, S0, encI, encB, ha, ha', hbl, hb']
      refine CallR.pure (hi a b la lb) (cl_cons (closed_Is _) (cl_cons (closed_Is _) cl_nil)) (closed_B _) ?_
      simp [AW_seq, AW_reg, AW_regD, AW_block, AW_cond, AW_skip, AW_exit, AW_ret, AW_scp, condR_true, condR_false, AThen_normal, AThen_ret, AThen_exit, ABlock_normal, ABlock_ret, ABlock_exit, AScope_normal, AScope_ret, AScope_exit, RetK_ret, RetK_normal, retAV_one, retAV_two, retAV_three, retAV_nil, RG_nil, RG_op, RG_guard, gdR_tt, gdR_ff, gdR_tf, gdR_ft, gdR_un, RG_call, callQ_clo, contK_ap, opR_some, RD_nil, RD_op0, RD_op1, opD0_some, opD1_some, RD_call, callQD_clo, RD_guard, gdD_tt, gdD_ff, gdD_tf, gdD_ft, gdD_un, psh_nil, psh_cons, Apt_nil, Apt_nilT, Apt_true, Apt_false, Dis_def, runT_val, runT_rd, runT_wr, runT_new, runT_mv, ex, put_some, put_none, ev_t, ev_c, argF_zero, argF_succ, set_g, set_n, cells_v, cells_sl, cells_agg, cells_own, cells_ptr, cells_clo, cells_eptr, cells_mp, putc, exBslice, lfill, exField, exIdxV, exIdxP, exBox, exAlloc, exLoad, exStore, exFieldA, exIdxA, exLen, exPick, exUn, exBeq, exMM, exSeq, seqGo, exExt, binV, intOp, subc, AV.solid, S0, encI, encB]
      refine CallR.pure (hb a b la lb) (cl_cons (closed_Is _) (cl_cons (closed_Is _) cl_nil)) (closed_B _) ?_
      simp [AW_seq, AW_reg, AW_regD, AW_block, AW_cond, AW_skip, AW_exit, AW_ret, AW_scp, condR_true, condR_false, AThen_normal, AThen_ret, AThen_exit, ABlock_normal, ABlock_ret, ABlock_exit, AScope_normal, AScope_ret, AScope_exit, RetK_ret, RetK_normal, retAV_one, retAV_two, retAV_three, retAV_nil, RG_nil, RG_op, RG_guard, gdR_tt, gdR_ff, gdR_tf, gdR_ft, gdR_un, RG_call, callQ_clo, contK_ap, opR_some, RD_nil, RD_op0, RD_op1, opD0_some, opD1_some, RD_call, callQD_clo, RD_guard, gdD_tt, gdD_ff, gdD_tf, gdD_ft, gdD_un, psh_nil, psh_cons, Apt_nil, Apt_nilT, Apt_true, Apt_false, Dis_def, runT_val, runT_rd, runT_wr, runT_new, runT_mv, ex, put_some, put_none, ev_t, ev_c, argF_zero, argF_succ, set_g, set_n, cells_v, cells_sl, cells_agg, cells_own, cells_ptr, cells_clo, cells_eptr, cells_mp, putc, exBslice, lfill, exField, exIdxV, exIdxP, exBox, exAlloc, exLoad, exStore, exFieldA, exIdxA, exLen, exPick, exUn, exBeq, exMM, exSeq, seqGo, exExt, binV, intOp, subc, AV.solid, S0, encI, encB]
      refine CallR.pure (hb b a lb la) (cl_cons (closed_Is _) (cl_cons (closed_Is _) cl_nil)) (closed_B _) ?_
      by_cases he : a = b
      · subst he
        have hs := beforeS_self a
        simp [AW_seq, AW_reg, AW_regD, AW_block, AW_cond, AW_skip, AW_exit, AW_ret, AW_scp, condR_true, condR_false, AThen_normal, AThen_ret, AThen_exit, ABlock_normal, ABlock_ret, ABlock_exit, AScope_normal, AScope_ret, AScope_exit, RetK_ret, RetK_normal, retAV_one, retAV_two, retAV_three, retAV_nil, RG_nil, RG_op, RG_guard, gdR_tt, gdR_ff, gdR_tf, gdR_ft, gdR_un, RG_call, callQ_clo, contK_ap, opR_some, RD_nil, RD_op0, RD_op1, opD0_some, opD1_some, RD_call, callQD_clo, RD_guard, gdD_tt, gdD_ff, gdD_tf, gdD_ft, gdD_un, psh_nil, psh_cons, Apt_nil, Apt_nilT, Apt_true, Apt_false, Dis_def, runT_val, runT_rd, runT_wr, runT_new, runT_mv, ex, put_some, put_none, ev_t, ev_c, argF_zero, argF_succ, set_g, set_n, cells_v, cells_sl, cells_agg, cells_own, cells_ptr, cells_clo, cells_eptr, cells_mp, putc, exBslice, lfill, exField, exIdxV, exIdxP, exBox, exAlloc, exLoad, exStore, exFieldA, exIdxA, exLen, exPick, exUn, exBeq, exMM, exSeq, seqGo, exExt, binV, intOp, subc, AV.solid, S0, encI, encB, hs]
        refine CallR.pure (hb a a la la) (cl_cons (closed_Is _) (cl_cons (closed_Is _) cl_nil)) (closed_B _) ?_
        simp [AW_seq, AW_reg, AW_regD, AW_block, AW_cond, AW_skip, AW_exit, AW_ret, AW_scp, condR_true, condR_false, AThen_normal, AThen_ret, AThen_exit, ABlock_normal, ABlock_ret, ABlock_exit, AScope_normal, AScope_ret, AScope_exit, RetK_ret, RetK_normal, retAV_one, retAV_two, retAV_three, retAV_nil, RG_nil, RG_op, RG_guard, gdR_tt, gdR_ff, gdR_tf, gdR_ft, gdR_un, RG_call, callQ_clo, contK_ap, opR_some, RD_nil, RD_op0, RD_op1, opD0_some, opD1_some, RD_call, callQD_clo, RD_guard, gdD_tt, gdD_ff, gdD_tf, gdD_ft, gdD_un, psh_nil, psh_cons, Apt_nil, Apt_nilT, Apt_true, Apt_false, Dis_def, runT_val, runT_rd, runT_wr, runT_new, runT_mv, ex, put_some, put_none, ev_t, ev_c, argF_zero, argF_succ, set_g, set_n, cells_v, cells_sl, cells_agg, cells_own, cells_ptr, cells_clo, cells_eptr, cells_mp, putc, exBslice, lfill, exField, exIdxV, exIdxP, exBox, exAlloc, exLoad, exStore, exFieldA, exIdxA, exLen, exPick, exUn, exBeq, exMM, exSeq, seqGo, exExt, binV, intOp, subc, AV.solid, S0, encI, encB, hs]
        refine CallR.pure (hw a place (by omega)) (cl_cons (closed_Is _) (cl_cons (closed_I _) cl_nil)) (closed_Is _) ?_
        simp [AW_seq, AW_reg, AW_regD, AW_block, AW_cond, AW_skip, AW_exit, AW_ret, AW_scp, condR_true, condR_false, AThen_normal, AThen_ret, AThen_exit, ABlock_normal, ABlock_ret, ABlock_exit, AScope_normal, AScope_ret, AScope_exit, RetK_ret, RetK_normal, retAV_one, retAV_two, retAV_three, retAV_nil, RG_nil, RG_op, RG_guard, gdR_tt, gdR_ff, gdR_tf, gdR_ft, gdR_un, RG_call, callQ_clo, contK_ap, opR_some, RD_nil, RD_op0, RD_op1, opD0_some, opD1_some, RD_call, callQD_clo, RD_guard, gdD_tt, gdD_ff, gdD_tf, gdD_ft, gdD_un, psh_nil, psh_cons, Apt_nil, Apt_nilT, Apt_true, Apt_false, Dis_def, runT_val, runT_rd, runT_wr, runT_new, runT_mv, ex, put_some, put_none, ev_t, ev_c, argF_zero, argF_succ, set_g, set_n, cells_v, cells_sl, cells_agg, cells_own, cells_ptr, cells_clo, cells_eptr, cells_mp, putc, exBslice, lfill, exField, exIdxV, exIdxP, exBox, exAlloc, exLoad, exStore, exFieldA, exIdxA, exLen, exPick, exUn, exBeq, exMM, exSeq, seqGo, exExt, binV, intOp, subc, AV.solid, S0, encI, encB]
        refine writes_tail (a := a) (place := place) (by omega) ?_ ?_ ?_ <;> simp [put_some, argF_zero, argF_succ, encI, encIs]
      · have hne : (a == b) = false := by simp [he]
        have hs := beforeS_self a
        rcases beforeS_either he with ⟨h1, h2⟩ | ⟨h1, h2⟩
        · simp [AW_seq, AW_reg, AW_regD, AW_block, AW_cond, AW_skip, AW_exit, AW_ret, AW_scp, condR_true, condR_false, AThen_normal, AThen_ret, AThen_exit, ABlock_normal, ABlock_ret, ABlock_exit, AScope_normal, AScope_ret, AScope_exit, RetK_ret, RetK_normal, retAV_one, retAV_two, retAV_three, retAV_nil, RG_nil, RG_op, RG_guard, gdR_tt, gdR_ff, gdR_tf, gdR_ft, gdR_un, RG_call, callQ_clo, contK_ap, opR_some, RD_nil, RD_op0, RD_op1, opD0_some, opD1_some, RD_call, callQD_clo, RD_guard, gdD_tt, gdD_ff, gdD_tf, gdD_ft, gdD_un, psh_nil, psh_cons, Apt_nil, Apt_nilT, Apt_true, Apt_false, Dis_def, runT_val, runT_rd, runT_wr, runT_new, runT_mv, ex, put_some, put_none, ev_t, ev_c, argF_zero, argF_succ, set_g, set_n, cells_v, cells_sl, cells_agg, cells_own, cells_ptr, cells_clo, cells_eptr, cells_mp, putc, exBslice, lfill, exField, exIdxV, exIdxP, exBox, exAlloc, exLoad, exStore, exFieldA, exIdxA, exLen, exPick, exUn, exBeq, exMM, exSeq, seqGo, exExt, binV, intOp, subc, AV.solid, S0, encI, encB, h1, h2, hne]
          refine CallR.pure (hb a a la la) (cl_cons (closed_Is _) (cl_cons (closed_Is _) cl_nil)) (closed_B _) ?_
          simp [AW_seq, AW_reg, AW_regD, AW_block, AW_cond, AW_skip, AW_exit, AW_ret, AW_scp, condR_true, condR_false, AThen_normal, AThen_ret, AThen_exit, ABlock_normal, ABlock_ret, ABlock_exit, AScope_normal, AScope_ret, AScope_exit, RetK_ret, RetK_normal, retAV_one, retAV_two, retAV_three, retAV_nil, RG_nil, RG_op, RG_guard, gdR_tt, gdR_ff, gdR_tf, gdR_ft, gdR_un, RG_call, callQ_clo, contK_ap, opR_some, RD_nil, RD_op0, RD_op1, opD0_some, opD1_some, RD_call, callQD_clo, RD_guard, gdD_tt, gdD_ff, gdD_tf, gdD_ft, gdD_un, psh_nil, psh_cons, Apt_nil, Apt_nilT, Apt_true, Apt_false, Dis_def, runT_val, runT_rd, runT_wr, runT_new, runT_mv, ex, put_some, put_none, ev_t, ev_c, argF_zero, argF_succ, set_g, set_n, cells_v, cells_sl, cells_agg, cells_own, cells_ptr, cells_clo, cells_eptr, cells_mp, putc, exBslice, lfill, exField, exIdxV, exIdxP, exBox, exAlloc, exLoad, exStore, exFieldA, exIdxA, exLen, exPick, exUn, exBeq, exMM, exSeq, seqGo, exExt, binV, intOp, subc, AV.solid, S0, encI, encB, hs]
          refine CallR.pure (hw a place (by omega)) (cl_cons (closed_Is _) (cl_cons (closed_I _) cl_nil)) (closed_Is _) ?_
          simp [AW_seq, AW_reg, AW_regD, AW_block, AW_cond, AW_skip, AW_exit, AW_ret, AW_scp, condR_true, condR_false, AThen_normal, AThen_ret, AThen_exit, ABlock_normal, ABlock_ret, ABlock_exit, AScope_normal, AScope_ret, AScope_exit, RetK_ret, RetK_normal, retAV_one, retAV_two, retAV_three, retAV_nil, RG_nil, RG_op, RG_guard, gdR_tt, gdR_ff, gdR_tf, gdR_ft, gdR_un, RG_call, callQ_clo, contK_ap, opR_some, RD_nil, RD_op0, RD_op1, opD0_some, opD1_some, RD_call, callQD_clo, RD_guard, gdD_tt, gdD_ff, gdD_tf, gdD_ft, gdD_un, psh_nil, psh_cons, Apt_nil, Apt_nilT, Apt_true, Apt_false, Dis_def, runT_val, runT_rd, runT_wr, runT_new, runT_mv, ex, put_some, put_none, ev_t, ev_c, argF_zero, argF_succ, set_g, set_n, cells_v, cells_sl, cells_agg, cells_own, cells_ptr, cells_clo, cells_eptr, cells_mp, putc, exBslice, lfill, exField, exIdxV, exIdxP, exBox, exAlloc, exLoad, exStore, exFieldA, exIdxA, exLen, exPick, exUn, exBeq, exMM, exSeq, seqGo, exExt, binV, intOp, subc, AV.solid, S0, encI, encB]
          refine writes_tail (a := a) (place := place) (by omega) ?_ ?_ ?_ <;> simp [put_some, argF_zero, argF_succ, encI, encIs]
        · simp [AW_seq, AW_reg, AW_regD, AW_block, AW_cond, AW_skip, AW_exit, AW_ret, AW_scp, condR_true, condR_false, AThen_normal, AThen_ret, AThen_exit, ABlock_normal, ABlock_ret, ABlock_exit, AScope_normal, AScope_ret, AScope_exit, RetK_ret, RetK_normal, retAV_one, retAV_two, retAV_three, retAV_nil, RG_nil, RG_op, RG_guard, gdR_tt, gdR_ff, gdR_tf, gdR_ft, gdR_un, RG_call, callQ_clo, contK_ap, opR_some, RD_nil, RD_op0, RD_op1, opD0_some, opD1_some, RD_call, callQD_clo, RD_guard, gdD_tt, gdD_ff, gdD_tf, gdD_ft, gdD_un, psh_nil, psh_cons, Apt_nil, Apt_nilT, Apt_true, Apt_false, Dis_def, runT_val, runT_rd, runT_wr, runT_new, runT_mv, ex, put_some, put_none, ev_t, ev_c, argF_zero, argF_succ, set_g, set_n, cells_v, cells_sl, cells_agg, cells_own, cells_ptr, cells_clo, cells_eptr, cells_mp, putc, exBslice, lfill, exField, exIdxV, exIdxP, exBox, exAlloc, exLoad, exStore, exFieldA, exIdxA, exLen, exPick, exUn, exBeq, exMM, exSeq, seqGo, exExt, binV, intOp, subc, AV.solid, S0, encI, encB, h1, h2, hne]
          refine CallR.pure (hb a a la la) (cl_cons (closed_Is _) (cl_cons (closed_Is _) cl_nil)) (closed_B _) ?_
          simp [AW_seq, AW_reg, AW_regD, AW_block, AW_cond, AW_skip, AW_exit, AW_ret, AW_scp, condR_true, condR_false, AThen_normal, AThen_ret, AThen_exit, ABlock_normal, ABlock_ret, ABlock_exit, AScope_normal, AScope_ret, AScope_exit, RetK_ret, RetK_normal, retAV_one, retAV_two, retAV_three, retAV_nil, RG_nil, RG_op, RG_guard, gdR_tt, gdR_ff, gdR_tf, gdR_ft, gdR_un, RG_call, callQ_clo, contK_ap, opR_some, RD_nil, RD_op0, RD_op1, opD0_some, opD1_some, RD_call, callQD_clo, RD_guard, gdD_tt, gdD_ff, gdD_tf, gdD_ft, gdD_un, psh_nil, psh_cons, Apt_nil, Apt_nilT, Apt_true, Apt_false, Dis_def, runT_val, runT_rd, runT_wr, runT_new, runT_mv, ex, put_some, put_none, ev_t, ev_c, argF_zero, argF_succ, set_g, set_n, cells_v, cells_sl, cells_agg, cells_own, cells_ptr, cells_clo, cells_eptr, cells_mp, putc, exBslice, lfill, exField, exIdxV, exIdxP, exBox, exAlloc, exLoad, exStore, exFieldA, exIdxA, exLen, exPick, exUn, exBeq, exMM, exSeq, seqGo, exExt, binV, intOp, subc, AV.solid, S0, encI, encB, hs]
          refine CallR.pure (hw a place (by omega)) (cl_cons (closed_Is _) (cl_cons (closed_I _) cl_nil)) (closed_Is _) ?_
          simp [AW_seq, AW_reg, AW_regD, AW_block, AW_cond, AW_skip, AW_exit, AW_ret, AW_scp, condR_true, condR_false, AThen_normal, AThen_ret, AThen_exit, ABlock_normal, ABlock_ret, ABlock_exit, AScope_normal, AScope_ret, AScope_exit, RetK_ret, RetK_normal, retAV_one, retAV_two, retAV_three, retAV_nil, RG_nil, RG_op, RG_guard, gdR_tt, gdR_ff, gdR_tf, gdR_ft, gdR_un, RG_call, callQ_clo, contK_ap, opR_some, RD_nil, RD_op0, RD_op1, opD0_some, opD1_some, RD_call, callQD_clo, RD_guard, gdD_tt, gdD_ff, gdD_tf, gdD_ft, gdD_un, psh_nil, psh_cons, Apt_nil, Apt_nilT, Apt_true, Apt_false, Dis_def, runT_val, runT_rd, runT_wr, runT_new, runT_mv, ex, put_some, put_none, ev_t, ev_c, argF_zero, argF_succ, set_g, set_n, cells_v, cells_sl, cells_agg, cells_own, cells_ptr, cells_clo, cells_eptr, cells_mp, putc, exBslice, lfill, exField, exIdxV, exIdxP, exBox, exAlloc, exLoad, exStore, exFieldA, exIdxA, exLen, exPick, exUn, exBeq, exMM, exSeq, seqGo, exExt, binV, intOp, subc, AV.solid, S0, encI, encB]
          refine writes_tail (a := a) (place := place) (by omega) ?_ ?_ ?_ <;> simp [put_some, argF_zero, argF_succ, encI, encIs]
end
end Go.Rf
