import Derived.Test.YtgmbloldekkieaaRfRows
import Derived.Test.YtgmbloldekkieaaRfM18c
import Derived.Test.YtgmbloldekkieaaRfCell
set_option linter.unusedVariables false
set_option linter.unusedSimpArgs false
namespace Go.Rf
def c_ph_in : AC :=
  (.block 4 (.loop (.seq (.reg none [
           ⟨(some 28), .bin .lss (.t 27) (.t 26), none, none⟩])
          (.seq (.cond (.t 28) .skip (.exit 4))
          (.seq (.block 5 (.seq (.reg none [
            ⟨(some 29), .mv (.t 27), none, none⟩,
            ⟨(some 30), .idxA 1 (.t 25) (.t 27), none, none⟩,
            ⟨(some 31), .load none (.t 30), none, none⟩,
            ⟨(some 8), .mv (.t 29), none, none⟩,
            ⟨(some 9), .mv (.t 31), none, none⟩])
           (.seq (.reg none [
            ⟨(some 32), .mv (.t 7), none, none⟩,
            ⟨(some 33), .mv (.t 8), none, none⟩,
            ⟨(some 34), .idxA 1 (.t 32) (.t 33), none, none⟩,
            ⟨none, .store 1 (.t 34) (.c (.v (.int .i64 (-1)))), none, none⟩])
           (.seq (.reg none [
            ⟨(some 35), .mv (.t 8), none, none⟩,
            ⟨(some 36), .bin .and (.t 35) (.c (.v (.int .i64 1))), none, none⟩,
            ⟨(some 37), .bin .eql (.t 36) (.c (.v (.int .i64 1))), none, none⟩,
            ⟨(some 10), .mv (.t 37), none, none⟩])
           (.block 6 (.seq (.reg none [
             ⟨(some 39), .mv (.t 10), none, none⟩,
             ⟨(some 40), .un .not (.t 39), none, none⟩,
             ⟨(some 41), .mv (.t 40), none, none⟩,
             ⟨(some 42), .mv (.t 6), (some (41, true)), none⟩,
             ⟨(some 43), .bin .eql (.t 42) (.c (.v (.int .i64 0))), (some (41, true)), none⟩,
             ⟨(some 44), .pick (.t 41) (.t 43) (.c (.v (.bool false))), none, none⟩,
             ⟨(some 38), .mv (.t 44), none, none⟩])
            (.cond (.t 38) (.reg none [
              ⟨(some 45), .mv (.t 7), none, none⟩,
              ⟨(some 46), .mv (.t 8), none, none⟩,
              ⟨(some 47), .mv (.t 9), none, none⟩,
              ⟨(some 48), .bin .mul (.t 47) (.c (.v (.int .i64 3))), none, none⟩,
              ⟨(some 49), .bin .add (.t 48) (.c (.v (.int .i64 1))), none, none⟩,
              ⟨(some 50), .idxA 1 (.t 45) (.t 46), none, none⟩,
              ⟨none, .store 1 (.t 50) (.t 49), none, none⟩]) (.seq (.reg none [
              ⟨(some 52), .mv (.t 10), none, none⟩,
              ⟨(some 53), .un .not (.t 52), none, none⟩,
              ⟨(some 51), .mv (.t 53), none, none⟩])
             (.cond (.t 51) (.reg none [
               ⟨(some 54), .mv (.t 7), none, none⟩,
               ⟨(some 55), .mv (.t 8), none, none⟩,
               ⟨(some 56), .mv (.t 9), none, none⟩,
               ⟨(some 57), .bin .mul (.t 56) (.c (.v (.int .i64 3))), none, none⟩,
               ⟨(some 58), .mv (.t 6), none, none⟩,
               ⟨(some 59), .bin .add (.t 57) (.t 58), none, none⟩,
               ⟨(some 60), .idxA 1 (.t 54) (.t 55), none, none⟩,
               ⟨none, .store 1 (.t 60) (.t 59), none, none⟩]) (.seq (.reg none [
               ⟨(some 62), .mv (.t 6), none, none⟩,
               ⟨(some 63), .bin .eql (.t 62) (.c (.v (.int .i64 1))), none, none⟩,
               ⟨(some 61), .mv (.t 63), none, none⟩])
              (.cond (.t 61) (.reg none [
                ⟨(some 64), .mv (.t 7), none, none⟩,
                ⟨(some 65), .mv (.t 8), none, none⟩,
                ⟨(some 66), .mv (.t 9), none, none⟩,
                ⟨(some 67), .bin .mul (.t 66) (.c (.v (.int .i64 3))), none, none⟩,
                ⟨(some 68), .bin .add (.t 67) (.c (.v (.int .i64 2))), none, none⟩,
                ⟨(some 69), .idxA 1 (.t 64) (.t 65), none, none⟩,
                ⟨none, .store 1 (.t 69) (.t 68), none, none⟩]) .skip)))))))))))
          (.reg none [
           ⟨(some 70), .bin .add (.t 27) (.c (.v (.int .i64 1))), none, none⟩,
           ⟨(some 27), .mv (.t 70), none, none⟩]))))))
def c_ph_add : AC :=
  (.reg (some [[], [], [], [], [], [true], [false, true], [false, false, true], [false, false, false, true], [], [], [], [], [], [], [], [], [], [true]]) [
         ⟨(some 71), .fieldA 0 (.t 3), none, none⟩,
         ⟨(some 72), .load none (.t 71), none, none⟩,
         ⟨(some 73), .mv (.t 7), none, none⟩,
         ⟨(some 74), .bslice 1 1 (.sl true []) [(0, (.t 73))], none, none⟩,
         ⟨(some 75), .app 1 24 (.t 72) (.t 74), none, none⟩,
         ⟨(some 76), .fieldA 1 (.t 3), none, none⟩,
         ⟨(some 77), .load none (.t 76), none, none⟩,
         ⟨(some 78), .mv (.t 6), none, none⟩,
         ⟨(some 79), .bin .eql (.t 78) (.c (.v (.int .i64 2))), none, none⟩,
         ⟨(some 80), .mv (.t 79), none, none⟩,
         ⟨(some 81), .fieldA 2 (.t 1), (some (80, true)), none⟩,
         ⟨(some 82), .load none (.t 81), (some (80, true)), none⟩,
         ⟨(some 83), .mv (.t 4), (some (80, true)), none⟩,
         ⟨(some 84), .idxA 1 (.t 82) (.t 83), (some (80, true)), none⟩,
         ⟨(some 85), .load none (.t 84), (some (80, true)), none⟩,
         ⟨(some 86), .pick (.t 80) (.t 85) (.c (.v (.bool false))), none, none⟩,
         ⟨(some 87), .bslice 1 1 (.v (.bool false)) [(0, (.t 86))], none, none⟩,
         ⟨(some 88), .app 1 1 (.t 77) (.t 87), none, none⟩,
         ⟨(some 89), .fieldA 0 (.t 3), none, none⟩,
         ⟨none, .store 1 (.t 89) (.t 75), none, none⟩,
         ⟨(some 90), .fieldA 1 (.t 3), none, none⟩,
         ⟨none, .store 1 (.t 90) (.t 88), none, none⟩])
def c_ph_phases : AC :=
  (.block 2 (.loop (.seq (.reg none [
        ⟨(some 20), .bin .lss (.t 19) (.c (.v (.int .i64 3))), none, none⟩])
       (.seq (.cond (.t 20) .skip (.exit 2))
       (.seq (.block 3 (.seq (.reg none [
         ⟨(some 21), .mv (.t 19), none, none⟩,
         ⟨(some 6), .mv (.t 21), none, none⟩])
        (.seq (.reg none [
         ⟨(some 22), .fieldA 0 (.t 1), none, none⟩,
         ⟨(some 23), .load none (.t 22), none, none⟩,
         ⟨(some 24), .mks 1 8 (.v (.int .i64 0)) (.t 23) (.t 23), none, none⟩,
         ⟨(some 7), .mv (.t 24), none, none⟩])
        (.seq (.seq (.reg none [
         ⟨(some 25), .mv (.t 5), none, none⟩,
         ⟨(some 26), .len (.t 25), none, none⟩,
         ⟨(some 27), .mv (.c (.v (.int .i64 0))), none, none⟩])
        c_ph_in)
        c_ph_add))))
       (.reg none [
        ⟨(some 91), .bin .add (.t 19) (.c (.v (.int .i64 1))), none, none⟩,
        ⟨(some 19), .mv (.t 91), none, none⟩]))))))
def c_path_phased : AC :=
  (.seq (.reg none [
   ⟨(some 1), .box 3 (.t 0), none, none⟩,
   ⟨(some 2), .alloc (.agg [(.sl true []), (.sl true [])]) 2, none, none⟩])
  (.seq (.reg none [
   ⟨(some 3), .alloc (.agg [(.sl true []), (.sl true [])]) 2, none, none⟩])
  (.seq (.seq (.reg none [
   ⟨(some 11), .fieldA 1 (.t 1), none, none⟩,
   ⟨(some 12), .load none (.t 11), none, none⟩,
   ⟨(some 13), .len (.t 12), none, none⟩,
   ⟨(some 14), .mv (.c (.v (.int .i64 0))), none, none⟩])
  (.block 0 (.loop (.seq (.reg none [
     ⟨(some 15), .bin .lss (.t 14) (.t 13), none, none⟩])
    (.seq (.cond (.t 15) .skip (.exit 0))
    (.seq (.block 1 (.seq (.reg none [
      ⟨(some 16), .mv (.t 14), none, none⟩,
      ⟨(some 17), .idxA 1 (.t 12) (.t 14), none, none⟩,
      ⟨(some 18), .load none (.t 17), none, none⟩,
      ⟨(some 4), .mv (.t 16), none, none⟩,
      ⟨(some 5), .mv (.t 18), none, none⟩])
     (.seq (.reg none [
      ⟨(some 19), .mv (.c (.v (.int .i64 0))), none, none⟩])
     c_ph_phases)))
    (.reg none [
     ⟨(some 92), .bin .add (.t 14) (.c (.v (.int .i64 1))), none, none⟩,
     ⟨(some 14), .mv (.t 92), none, none⟩])))))))
  (.seq (.reg none [
   ⟨(some 93), .load (some 2) (.t 3), none, none⟩,
   ⟨none, .store 2 (.t 2) (.t 93), none, none⟩])
  .ret))))

theorem and1 (i : Nat) (h : i ≤ 100000) : IntKind.i64.wrap ↑(i % 2 ^ IntKind.i64.bits &&& 1 % 2 ^ IntKind.i64.bits) = ((i % 2 : Nat) : Int) := by
  have hb : IntKind.i64.bits = 64 := rfl
  have e1 : i % 2 ^ IntKind.i64.bits = i := by rw [hb]; exact Nat.mod_eq_of_lt (by omega)
  have e2 : 1 % 2 ^ IntKind.i64.bits = 1 := by rw [hb]
  rw [e1, e2, Nat.and_one_is_mod]; exact wrap_in _ (by omega)
structure PhF (d : Det) (row : List Int) (s ph : Nat) (f : AF) : Prop where
  e1 : f 1 = .ptr 0 0 0
  e2 : f 2 = .ptr 1 0 0
  e3 : f 3 = .ptr 2 0 0
  e4 : f 4 = encI s
  e5 : f 5 = encIs row
  e12 : f 12 = encIss d.next
  e13 : f 13 = encI d.next.length
  e14 : f 14 = encI s
  e19 : f 19 = encI ph
  e6 : f 6 = encI ph
def phC (d : Det) (sg s ph i : Nat) : List Int := (pgRow d (3 * s + ph)).take i ++ List.replicate (sg - i) 0
structure PhI (d : Det) (row : List Int) (sg s ph c n0 : Nat) (g0 : Nat → Option Blk) (i : Nat) (f : AF) (S : St) : Prop where
  le : i ≤ sg
  e27 : f 27 = encI i
  e26 : f 26 = encI sg
  e25 : f 25 = encIs row
  e7 : f 7 = .own c 0 sg
  gc : S.g c = some (.arr 1 ((phC d sg s ph i).map encI))
  go : ∀ k, k ≠ c → k < n0 → S.g k = g0 k
  n : n0 ≤ S.n
  ff : PhF d row s ph f
def phI (d : Det) (row : List Int) (sg s ph c n0 : Nat) (g0 : Nat → Option Blk) (m : Nat) (f : AF) (S : St) : Prop := ∃ i, m = sg - i ∧ PhI d row sg s ph c n0 g0 i f S
theorem pgRow_length {d : Det} (R : RightD d) {sg : Nat} (hsg : d.signs = sg) {s ph : Nat} (hs : s < d.next.length) (hp : ph < 3) : (pgRow d (3 * s + ph)).length = sg := by
  have e2 : (3 * s + ph) / 3 = s := by omega
  have := R.row s hs
  simp only [pgRow, prow, List.length_mapIdx, e2, List.getD_eq_getElem?_getD, List.getElem?_eq_getElem hs, Option.getD_some]
  omega
theorem phC_set {d : Det} (R : RightD d) {sg : Nat} (hsg : d.signs = sg) {s ph i : Nat} (hs : s < d.next.length) (hp : ph < 3) (hi : i < sg) (x : Int) (hx : x = pstep ph i (stepD d s i)) : (phC d sg s ph i).set i x = phC d sg s ph (i + 1) := by
  have hlen := pgRow_length R hsg hs hp
  have hat := pgRow_at R hs hp i
  rw [if_pos (by omega)] at hat
  unfold phC
  rw [List.take_add_one, hat]
  have e : sg - i = (sg - (i + 1)) + 1 := by omega
  rw [e, List.replicate_succ]
  simp only [Option.toList_some, List.append_assoc, List.singleton_append]
  rw [List.set_append_right _ _ (by simp; omega)]
  have : i - ((pgRow d (3 * s + ph)).take i).length = 0 := by simp; omega
  rw [this, hx]; rfl
theorem phC_length {d : Det} (R : RightD d) {sg : Nat} (hsg : d.signs = sg) {s ph i : Nat} (hs : s < d.next.length) (hp : ph < 3) (hi : i ≤ sg) : (phC d sg s ph i).length = sg := by
  have := pgRow_length R hsg hs hp
  simp [phC]; omega
theorem ph_in {P : Program} {d : Det} (R : RightD d) {sg : Nat} (hsg : d.signs = sg) {row : List Int} {s ph c n0 : Nat} {g0 : Nat → Option Blk} (hs : s < d.next.length) (hrow : d.next[s] = row) (hp : ph < 3) (hc : c < n0) {f : AF} {S : St} {Q : Exit → AF → St → Prop} (h0 : PhI d row sg s ph c n0 g0 0 f S)
    (hq : ∀ f' S', PhI d row sg s ph c n0 g0 sg f' S' → Q .normal f' S') : AW P c_ph_in Q f S := by
  have hs1 := R.s1
  have hs2 := R.s2
  have hn2 := R.n2
  simp [AW_seq, AW_reg, AW_regD, AW_block, AW_cond, AW_skip, AW_exit, AW_ret, AW_scp, condR_true, condR_false, AThen_normal, AThen_ret, AThen_exit, ABlock_normal, ABlock_ret, ABlock_exit, AScope_normal, AScope_ret, AScope_exit, RetK_ret, RetK_normal, retAV_one, retAV_two, retAV_three, retAV_nil, RG_nil, RG_op, RG_guard, gdR_tt, gdR_ff, gdR_tf, gdR_ft, gdR_un, RG_call, callQ_clo, contK_ap, opR_some, RD_nil, RD_op0, RD_op1, opD0_some, opD1_some, RD_call, callQD_clo, RD_guard, gdD_tt, gdD_ff, gdD_tf, gdD_ft, gdD_un, psh_nil, psh_cons, Apt_nil, Apt_nilT, Apt_true, Apt_false, Dis_def, runT_val, runT_rd, runT_wr, runT_new, runT_mv, ex, put_some, put_none, ev_t, ev_c, argF_zero, argF_succ, set_g, set_n, cells_v, cells_sl, cells_agg, cells_own, cells_ptr, cells_clo, cells_eptr, cells_mp, putc, exBslice, lfill, exField, exIdxV, exIdxP, exBox, exAlloc, exLoad, exStore, exFieldA, exIdxA, exLen, exPick, exUn, exBeq, exMM, exSeq, seqGo, exExt, binV, intOp, subc, AV.solid, S0, encI, encB, c_ph_in]
  refine AW_loop (phI d row sg s ph c n0 g0) sg ⟨0, by omega, h0⟩ ?_
  rintro m f S ⟨i, rfl, ⟨le, e27, e26, e25, e7, gc, go, hn, ff⟩⟩
  by_cases hlt : i < sg
  · have hiI : (i : Int) < sg := by omega
    obtain ⟨q1, q2, q3⟩ := step_at R hs (s := (i : Int)) (by omega) (by omega)
    simp only [Int.toNat_natCast] at q1 q2
    have hgi : row[i]? = some ((stepD d s i : Nat) : Int) := by rw [← hrow, List.getElem?_eq_getElem q1, q2]
    have hcl := phC_length R hsg hs hp (Nat.le_of_lt hlt)
    have hci : i < ((phC d sg s ph i).map encI).length := by rw [List.length_map, hcl]; exact hlt
    have hcl' : ((phC d sg s ph i).map encI).length = sg := by rw [List.length_map, hcl]
    have hgci : ((phC d sg s ph i).map encI)[i]? = some (((phC d sg s ph i).map encI)[i]) := List.getElem?_eq_getElem hci
    have ha := and1 i (by omega)
    have hst : ∀ x : Int, x = pstep ph i (stepD d s i) → (((phC d sg s ph i).map encI).set i (.v (.int .i64 x))) = (phC d sg s ph (i + 1)).map encI := fun x hx => by rw [← phC_set R hsg hs hp hlt x hx, List.map_set]; rfl
    have fin : ∀ (f2 : AF) (S2 : St) (x : Int), x = pstep ph i (stepD d s i) → f2 27 = encI ((i : Int) + 1) → f2 26 = encI sg → f2 25 = encIs row → f2 7 = .own c 0 sg → S2.g c = some (.arr 1 (((phC d sg s ph i).map encI).set i (.v (.int .i64 x)))) → (∀ k, k ≠ c → k < n0 → S2.g k = g0 k) → n0 ≤ S2.n → PhF d row s ph f2 → INext (phI d row sg s ph c n0 g0) (sg - i) f2 S2 := by
      intro f2 S2 x hx a27 a26 a25 a7 ac ao an af
      exact ⟨sg - (i + 1), by omega, i + 1, rfl, ⟨by omega, by rw [a27]; simp [encI], a26, a25, a7, by rw [ac, hst x hx], ao, an, af⟩⟩
    have hw1 : IntKind.i64.wrap ((stepD d s i : Int) * 3) = (stepD d s i : Int) * 3 := wrap_in _ (by omega)
    have hw2 : IntKind.i64.wrap ((stepD d s i : Int) * 3 + 1) = (stepD d s i : Int) * 3 + 1 := wrap_in _ (by omega)
    have hw3 : IntKind.i64.wrap ((stepD d s i : Int) * 3 + 2) = (stepD d s i : Int) * 3 + 2 := wrap_in _ (by omega)
    have hw4 : IntKind.i64.wrap ((stepD d s i : Int) * 3 + ph) = (stepD d s i : Int) * 3 + ph := wrap_in _ (by omega)
    have hw5 : IntKind.i64.wrap ((i : Int) + 1) = (i : Int) + 1 := wrap_in _ (by omega)
    by_cases he : i % 2 = 0
    · rw [he] at ha
      by_cases hph : ph = 0
      · have hpb : ((ph : Int) == 0) = true := by simp [hph]
        simp [AW_seq, AW_reg, AW_regD, AW_block, AW_cond, AW_skip, AW_exit, AW_ret, AW_scp, condR_true, condR_false, AThen_normal, AThen_ret, AThen_exit, ABlock_normal, ABlock_ret, ABlock_exit, AScope_normal, AScope_ret, AScope_exit, RetK_ret, RetK_normal, retAV_one, retAV_two, retAV_three, retAV_nil, RG_nil, RG_op, RG_guard, gdR_tt, gdR_ff, gdR_tf, gdR_ft, gdR_un, RG_call, callQ_clo, contK_ap, opR_some, RD_nil, RD_op0, RD_op1, opD0_some, opD1_some, RD_call, callQD_clo, RD_guard, gdD_tt, gdD_ff, gdD_tf, gdD_ft, gdD_un, psh_nil, psh_cons, Apt_nil, Apt_nilT, Apt_true, Apt_false, Dis_def, runT_val, runT_rd, runT_wr, runT_new, runT_mv, ex, put_some, put_none, ev_t, ev_c, argF_zero, argF_succ, set_g, set_n, cells_v, cells_sl, cells_agg, cells_own, cells_ptr, cells_clo, cells_eptr, cells_mp, putc, exBslice, lfill, exField, exIdxV, exIdxP, exBox, exAlloc, exLoad, exStore, exFieldA, exIdxA, exLen, exPick, exUn, exBeq, exMM, exSeq, seqGo, exExt, binV, intOp, subc, AV.solid, S0, encI, encB, e27, e26, e25, e7, ff.e6, encIs, hiI, hgi, gc, hcl, hlt, ha, hpb, hw1, hw2, hw3, hw4, hw5]
        refine fin _ _ ((stepD d s i : Int) * 3 + 1) (by unfold pstep; rw [if_pos he, if_pos hph]) ?_ ?_ ?_ ?_ ?_ ?_ ?_ ⟨?_, ?_, ?_, ?_, ?_, ?_, ?_, ?_, ?_, ?_⟩
        · simp [put_some, encI]
        · simp [put_some, e26, encI]
        · simp [put_some, e25, encIs]
        · simp [put_some, e7]
        · simp [set_g]
        · intro k hk1 hk2; simp [set_g, hk1, go k hk1 hk2]
        · simp [set_n]; omega
        · simp [put_some, ff.e1]
        · simp [put_some, ff.e2]
        · simp [put_some, ff.e3]
        · simp [put_some, ff.e4]
        · simp [put_some, ff.e5]
        · simp [put_some, ff.e12]
        · simp [put_some, ff.e13]
        · simp [put_some, ff.e14]
        · simp [put_some, ff.e19]
        · simp [put_some, ff.e6]
      · have hpb : ((ph : Int) == 0) = false := beq_false_of_ne (by omega)
        simp [AW_seq, AW_reg, AW_regD, AW_block, AW_cond, AW_skip, AW_exit, AW_ret, AW_scp, condR_true, condR_false, AThen_normal, AThen_ret, AThen_exit, ABlock_normal, ABlock_ret, ABlock_exit, AScope_normal, AScope_ret, AScope_exit, RetK_ret, RetK_normal, retAV_one, retAV_two, retAV_three, retAV_nil, RG_nil, RG_op, RG_guard, gdR_tt, gdR_ff, gdR_tf, gdR_ft, gdR_un, RG_call, callQ_clo, contK_ap, opR_some, RD_nil, RD_op0, RD_op1, opD0_some, opD1_some, RD_call, callQD_clo, RD_guard, gdD_tt, gdD_ff, gdD_tf, gdD_ft, gdD_un, psh_nil, psh_cons, Apt_nil, Apt_nilT, Apt_true, Apt_false, Dis_def, runT_val, runT_rd, runT_wr, runT_new, runT_mv, ex, put_some, put_none, ev_t, ev_c, argF_zero, argF_succ, set_g, set_n, cells_v, cells_sl, cells_agg, cells_own, cells_ptr, cells_clo, cells_eptr, cells_mp, putc, exBslice, lfill, exField, exIdxV, exIdxP, exBox, exAlloc, exLoad, exStore, exFieldA, exIdxA, exLen, exPick, exUn, exBeq, exMM, exSeq, seqGo, exExt, binV, intOp, subc, AV.solid, S0, encI, encB, e27, e26, e25, e7, ff.e6, encIs, hiI, hgi, gc, hcl, hlt, ha, hpb, hw1, hw2, hw3, hw4, hw5]
        refine fin _ _ ((stepD d s i : Int) * 3 + ph) (by unfold pstep; rw [if_pos he, if_neg hph]) ?_ ?_ ?_ ?_ ?_ ?_ ?_ ⟨?_, ?_, ?_, ?_, ?_, ?_, ?_, ?_, ?_, ?_⟩
        · simp [put_some, encI]
        · simp [put_some, e26, encI]
        · simp [put_some, e25, encIs]
        · simp [put_some, e7]
        · simp [set_g]
        · intro k hk1 hk2; simp [set_g, hk1, go k hk1 hk2]
        · simp [set_n]; omega
        · simp [put_some, ff.e1]
        · simp [put_some, ff.e2]
        · simp [put_some, ff.e3]
        · simp [put_some, ff.e4]
        · simp [put_some, ff.e5]
        · simp [put_some, ff.e12]
        · simp [put_some, ff.e13]
        · simp [put_some, ff.e14]
        · simp [put_some, ff.e19]
        · simp [put_some, ff.e6]
    · have he1 : i % 2 = 1 := by omega
      rw [he1] at ha
      by_cases hph : ph = 1
      · have hpb : ((ph : Int) == 1) = true := by simp [hph]
        simp [AW_seq, AW_reg, AW_regD, AW_block, AW_cond, AW_skip, AW_exit, AW_ret, AW_scp, condR_true, condR_false, AThen_normal, AThen_ret, AThen_exit, ABlock_normal, ABlock_ret, ABlock_exit, AScope_normal, AScope_ret, AScope_exit, RetK_ret, RetK_normal, retAV_one, retAV_two, retAV_three, retAV_nil, RG_nil, RG_op, RG_guard, gdR_tt, gdR_ff, gdR_tf, gdR_ft, gdR_un, RG_call, callQ_clo, contK_ap, opR_some, RD_nil, RD_op0, RD_op1, opD0_some, opD1_some, RD_call, callQD_clo, RD_guard, gdD_tt, gdD_ff, gdD_tf, gdD_ft, gdD_un, psh_nil, psh_cons, Apt_nil, Apt_nilT, Apt_true, Apt_false, Dis_def, runT_val, runT_rd, runT_wr, runT_new, runT_mv, ex, put_some, put_none, ev_t, ev_c, argF_zero, argF_succ, set_g, set_n, cells_v, cells_sl, cells_agg, cells_own, cells_ptr, cells_clo, cells_eptr, cells_mp, putc, exBslice, lfill, exField, exIdxV, exIdxP, exBox, exAlloc, exLoad, exStore, exFieldA, exIdxA, exLen, exPick, exUn, exBeq, exMM, exSeq, seqGo, exExt, binV, intOp, subc, AV.solid, S0, encI, encB, e27, e26, e25, e7, ff.e6, encIs, hiI, hgi, gc, hcl, hlt, ha, hpb, hw1, hw2, hw3, hw4, hw5]
        refine fin _ _ ((stepD d s i : Int) * 3 + 2) (by unfold pstep; rw [if_neg he, if_pos hph]) ?_ ?_ ?_ ?_ ?_ ?_ ?_ ⟨?_, ?_, ?_, ?_, ?_, ?_, ?_, ?_, ?_, ?_⟩
        · simp [put_some, encI]
        · simp [put_some, e26, encI]
        · simp [put_some, e25, encIs]
        · simp [put_some, e7]
        · simp [set_g]
        · intro k hk1 hk2; simp [set_g, hk1, go k hk1 hk2]
        · simp [set_n]; omega
        · simp [put_some, ff.e1]
        · simp [put_some, ff.e2]
        · simp [put_some, ff.e3]
        · simp [put_some, ff.e4]
        · simp [put_some, ff.e5]
        · simp [put_some, ff.e12]
        · simp [put_some, ff.e13]
        · simp [put_some, ff.e14]
        · simp [put_some, ff.e19]
        · simp [put_some, ff.e6]
      · have hpb : ((ph : Int) == 1) = false := beq_false_of_ne (by omega)
        simp [AW_seq, AW_reg, AW_regD, AW_block, AW_cond, AW_skip, AW_exit, AW_ret, AW_scp, condR_true, condR_false, AThen_normal, AThen_ret, AThen_exit, ABlock_normal, ABlock_ret, ABlock_exit, AScope_normal, AScope_ret, AScope_exit, RetK_ret, RetK_normal, retAV_one, retAV_two, retAV_three, retAV_nil, RG_nil, RG_op, RG_guard, gdR_tt, gdR_ff, gdR_tf, gdR_ft, gdR_un, RG_call, callQ_clo, contK_ap, opR_some, RD_nil, RD_op0, RD_op1, opD0_some, opD1_some, RD_call, callQD_clo, RD_guard, gdD_tt, gdD_ff, gdD_tf, gdD_ft, gdD_un, psh_nil, psh_cons, Apt_nil, Apt_nilT, Apt_true, Apt_false, Dis_def, runT_val, runT_rd, runT_wr, runT_new, runT_mv, ex, put_some, put_none, ev_t, ev_c, argF_zero, argF_succ, set_g, set_n, cells_v, cells_sl, cells_agg, cells_own, cells_ptr, cells_clo, cells_eptr, cells_mp, putc, exBslice, lfill, exField, exIdxV, exIdxP, exBox, exAlloc, exLoad, exStore, exFieldA, exIdxA, exLen, exPick, exUn, exBeq, exMM, exSeq, seqGo, exExt, binV, intOp, subc, AV.solid, S0, encI, encB, e27, e26, e25, e7, ff.e6, encIs, hiI, hgi, gc, hcl, hlt, ha, hpb, hw1, hw2, hw3, hw4, hw5]
        refine fin _ _ (-1) (by unfold pstep; rw [if_neg he, if_neg hph]) ?_ ?_ ?_ ?_ ?_ ?_ ?_ ⟨?_, ?_, ?_, ?_, ?_, ?_, ?_, ?_, ?_, ?_⟩
        · simp [put_some, encI]
        · simp [put_some, e26, encI]
        · simp [put_some, e25, encIs]
        · simp [put_some, e7]
        · simp [set_g]
        · intro k hk1 hk2; simp [set_g, hk1, go k hk1 hk2]
        · simp [set_n]; omega
        · simp [put_some, ff.e1]
        · simp [put_some, ff.e2]
        · simp [put_some, ff.e3]
        · simp [put_some, ff.e4]
        · simp [put_some, ff.e5]
        · simp [put_some, ff.e12]
        · simp [put_some, ff.e13]
        · simp [put_some, ff.e14]
        · simp [put_some, ff.e19]
        · simp [put_some, ff.e6]
  · have : i = sg := by omega
    subst this
    simp [AW_seq, AW_reg, AW_regD, AW_block, AW_cond, AW_skip, AW_exit, AW_ret, AW_scp, condR_true, condR_false, AThen_normal, AThen_ret, AThen_exit, ABlock_normal, ABlock_ret, ABlock_exit, AScope_normal, AScope_ret, AScope_exit, RetK_ret, RetK_normal, retAV_one, retAV_two, retAV_three, retAV_nil, RG_nil, RG_op, RG_guard, gdR_tt, gdR_ff, gdR_tf, gdR_ft, gdR_un, RG_call, callQ_clo, contK_ap, opR_some, RD_nil, RD_op0, RD_op1, opD0_some, opD1_some, RD_call, callQD_clo, RD_guard, gdD_tt, gdD_ff, gdD_tf, gdD_ft, gdD_un, psh_nil, psh_cons, Apt_nil, Apt_nilT, Apt_true, Apt_false, Dis_def, runT_val, runT_rd, runT_wr, runT_new, runT_mv, ex, put_some, put_none, ev_t, ev_c, argF_zero, argF_succ, set_g, set_n, cells_v, cells_sl, cells_agg, cells_own, cells_ptr, cells_clo, cells_eptr, cells_mp, putc, exBslice, lfill, exField, exIdxV, exIdxP, exBox, exAlloc, exLoad, exStore, exFieldA, exIdxA, exLen, exPick, exUn, exBeq, exMM, exSeq, seqGo, exExt, binV, intOp, subc, AV.solid, S0, encI, encB, e27, e26]
    refine hq _ _ ⟨le, by simp [put_some, e27], by simp [put_some, e26], by simp [put_some, e25], by simp [put_some, e7], gc, go, by simp; omega, ⟨by simp [put_some, ff.e1], by simp [put_some, ff.e2], by simp [put_some, ff.e3], by simp [put_some, ff.e4], by simp [put_some, ff.e5], by simp [put_some, ff.e12], by simp [put_some, ff.e13], by simp [put_some, ff.e14], by simp [put_some, ff.e19], by simp [put_some, ff.e6]⟩⟩
structure PhS (d : Det) (k : Nat) (nx en : AV) (rv : List AV) (S : St) : Prop where
  g0 : S.g 0 = some (.arr 3 [encDet d])
  g1 : S.g 1 = some (.arr 2 [.agg [.sl true [], .sl true []]])
  g2 : S.g 2 = some (.arr 2 [.agg [nx, en]])
  n : 3 ≤ S.n
  rows : ARows S.g S.n [0, 1, 2] (nx :: en :: rv) (rv :: ((List.range k).map (pgEnd d)).map encB :: (List.range k).map fun i => (pgRow d i).map encI)
theorem cells_rv {g : Nat → Option Blk} {n : Nat} {av : List Nat} {vs : List AV} {ls : List (List AV)} (h : ARows g n av vs ls) : ∀ z ∈ vs, z.cells.length = 1 := by
  intro z hz
  obtain ⟨t, ht, rfl⟩ := List.mem_iff_getElem.mp hz
  rcases h.row t ht (by rw [← h.len]; exact ht) with ⟨e, _⟩ | ⟨_, _, _, e, _⟩ <;> rw [e] <;> rfl
theorem ph_add {P : Program} {d : Det} (R : RightD d) {sg : Nat} (hsg : d.signs = sg) {row : List Int} {s ph c : Nat} (hs : s < d.next.length) (hp : ph < 3) {f : AF} {S : St} {Q : Exit → AF → St → Prop} {nx en : AV} {rv : List AV}
    (ff : PhF d row s ph f) (e7 : f 7 = .own c 0 sg) (gc : S.g c = some (.arr 1 ((pgRow d (3 * s + ph)).map encI))) (hc : c < S.n ∧ c ∉ [0, 1, 2] ∧ ∀ w ∈ nx :: en :: rv, c ∉ w.ids) (st : PhS d (3 * s + ph) nx en rv S)
    (hq : ∀ f' S' nx' en' rv', PhF d row s ph f' → PhS d (3 * s + ph + 1) nx' en' rv' S' → Q .normal f' S') : AW P c_ph_add Q f S := by
  obtain ⟨g0, g1, g2, sn, rows⟩ := st
  obtain ⟨hv1, ho1, hs1, rows1⟩ := rows.head
  obtain ⟨hv2, ho2, hs2, rows2⟩ := rows1.head
  have hn2 := R.n2
  have hrl : rv.length = 3 * s + ph := by have := rows2.len; simpa using this
  have hfin : s < d.fin.length := by rw [R.fin]; exact hs
  have hfI : (s : Int) < d.fin.length := by omega
  have hgf : d.fin[s]? = some d.fin[s] := List.getElem?_eq_getElem hfin
  have hcs1 : nx.cells = [nx] := by rcases hv1 with ⟨e, _⟩ | ⟨_, _, _, e, _⟩ <;> rw [e] <;> rfl
  have hcs2 : en.cells = [en] := by rcases hv2 with ⟨e, _⟩ | ⟨_, _, _, e, _⟩ <;> rw [e] <;> rfl
  have hb2 : (((ph : Int) == 2) = true ∧ ph = 2) ∨ (((ph : Int) == 2) = false ∧ ph ≠ 2) := by
    by_cases h : ph = 2
    · left; simp [h]
    · right; exact ⟨beq_false_of_ne (by omega), h⟩
  have hnx : ∀ k ∈ [0, 1, 2], k ∉ nx.ids := fun k hk h6 => (ho1 k h6).2 hk
  have hen : ∀ k ∈ [0, 1, 2], k ∉ en.ids := fun k hk h6 => (ho2 k h6).2 hk
  have h2nx := hnx 2 (by simp)
  have hw2 : ∀ m, (St.without ⟨m, S.g⟩ nx).g 2 = some (.arr 2 [.agg [nx, en]]) := fun m => by rw [without_g 2 h2nx]; exact g2
  have hw0 : ∀ m, (St.without ⟨m, S.g⟩ nx).g 0 = some (.arr 3 [encDet d]) := fun m => by rw [without_g 0 (hnx 0 (by simp))]; exact g0
  have hsn2 : ¬ (2 = S.n + 4) := by omega
  have hsn2' : ¬ (S.n + 4 = 2) := by omega
  have hx : ∀ j ∈ nx.ids, j ≠ 2 := fun j hj e => h2nx (e ▸ hj)
  have hw22 : ∀ m m' b, (St.without ⟨m, ((St.without ⟨m', S.g⟩ nx).set (S.n + 4) b).g⟩ en).g 2 = some (.arr 2 [.agg [nx, en]]) := fun m m' b => by
    rw [without_g 2 (hen 2 (by simp)), set_g, if_neg hsn2]; exact hw2 m'
  have hsn17 : ¬ (2 = S.n + 17) := by omega
  have hv2' : ∀ m b, Vec ((St.without ⟨m, S.g⟩ nx).set (S.n + 4) b).g en 1 (((List.range (3 * s + ph)).map (pgEnd d)).map encB) := fun m b => hv2.frame (fun j hj => by
    rw [set_g, if_neg (by have := (ho2 j hj).1; omega), without_g j (fun h6 => hs1 en (by simp) j h6 hj)])
  have hrowl := pgRow_length R hsg hs hp
  have key : ∀ (T : St) (b : Bool), b = pgEnd d (3 * s + ph) → S.n + 22 ≤ T.n → T.g 2 = some (.arr 2 [.agg [.own (S.n + 4) 0 (3 * s + ph + 1), .own (S.n + 17) 0 (3 * s + ph + 1)]]) → (∀ k, k < S.n → k ≠ 2 → k ∉ nx.ids → k ∉ en.ids → T.g k = S.g k) →
      T.g (S.n + 4) = some (.arr 1 (rv ++ [.own c 0 sg])) → T.g (S.n + 17) = some (.arr 1 (((List.range (3 * s + ph)).map (pgEnd d)).map encB ++ [encB b])) → PhS d (3 * s + ph + 1) (.own (S.n + 4) 0 (3 * s + ph + 1)) (.own (S.n + 17) 0 (3 * s + ph + 1)) (rv ++ [.own c 0 sg]) T := by
    intro T b hb hTn hT2 hTo hT4 hT17
    have hTo' : ∀ v ∈ rv, ∀ i ∈ v.ids, T.g i = S.g i := fun v hv i hi => by
      obtain ⟨o1, o2⟩ := rows2.out v hv i hi
      exact hTo i o1 (by intro e; subst e; simp at o2) (fun h6 => hs1 v (by simp [hv]) i h6 hi) (fun h6 => hs2 v hv i h6 hi)
    have r1 : ARows T.g T.n [0, 1, 2] rv ((List.range (3 * s + ph)).map fun i => (pgRow d i).map encI) := rows2.frame (by omega) hTo'
    have hTc : T.g c = S.g c := hTo c hc.1 (by intro e; subst e; simp at hc) (hc.2.2 nx (by simp)) (hc.2.2 en (by simp))
    have r2 := r1.snoc (v := .own c 0 sg) (l := (pgRow d (3 * s + ph)).map encI) (.mk' (by rw [hTc]; exact gc) (by simp [hrowl])) (fun i hi => by
      simp only [AV.ids, List.mem_singleton] at hi
      subst hi; exact ⟨by omega, hc.2.1⟩) (fun w hw i hi h6 => by
      simp only [AV.ids, List.mem_singleton] at h6
      subst h6; exact hc.2.2 w (by simp [hw]) hi)
    have r3 := r2.cons (v := .own (S.n + 17) 0 (3 * s + ph + 1)) (l := ((List.range (3 * s + ph)).map (pgEnd d)).map encB ++ [encB b]) (.mk' hT17 (by simp)) (fun i hi => by
      simp only [AV.ids, List.mem_singleton] at hi
      subst hi; exact ⟨by omega, by simp⟩) (fun w hw i hi h6 => by
      simp only [AV.ids, List.mem_singleton] at hi
      subst hi
      have := (r2.out w hw _ h6)
      rcases List.mem_append.mp hw with hw | hw
      · have := (rows2.out w hw _ h6).1; omega
      · simp at hw; subst hw; simp [AV.ids] at h6; omega)
    have r4 := r3.cons (v := .own (S.n + 4) 0 (3 * s + ph + 1)) (l := rv ++ [.own c 0 sg]) (.mk' hT4 (by simp [hrl])) (fun i hi => by
      simp only [AV.ids, List.mem_singleton] at hi
      subst hi; exact ⟨by omega, by simp⟩) (fun w hw i hi h6 => by
      simp only [AV.ids, List.mem_singleton] at hi
      subst hi
      rcases List.mem_cons.mp hw with hw | hw
      · subst hw; simp [AV.ids] at h6
      · rcases List.mem_append.mp hw with hw | hw
        · have := (rows2.out w hw _ h6).1; omega
        · simp at hw; subst hw; simp [AV.ids] at h6; omega)
    refine ⟨?_, ?_, hT2, by omega, ?_⟩
    · rw [hTo 0 (by omega) (by omega) (hnx 0 (by simp)) (hen 0 (by simp))]; exact g0
    · rw [hTo 1 (by omega) (by omega) (hnx 1 (by simp)) (hen 1 (by simp))]; exact g1
    · have e1 : ((List.range (3 * s + ph + 1)).map (pgEnd d)).map encB = ((List.range (3 * s + ph)).map (pgEnd d)).map encB ++ [encB b] := by
        rw [List.range_succ]; simp [hb]
      have e2 : ((List.range (3 * s + ph + 1)).map fun i => (pgRow d i).map encI) = ((List.range (3 * s + ph)).map fun i => (pgRow d i).map encI) ++ [(pgRow d (3 * s + ph)).map encI] := by
        rw [List.range_succ]; simp
      rw [e1, e2]; exact r4
  have hwo : ∀ (m m' : Nat) (b : Option Blk) (k : Nat), k < S.n → k ∉ nx.ids → k ∉ en.ids → (St.without ⟨m, ((St.without ⟨m', S.g⟩ nx).set (S.n + 4) b).g⟩ en).g k = S.g k := by
    intro m m' b k hk h1 h2
    rw [without_g k h2, set_g, if_neg (by omega), without_g k h1]
  have hw4 : ∀ (m m' : Nat) (b : Option Blk), (St.without ⟨m, ((St.without ⟨m', S.g⟩ nx).set (S.n + 4) b).g⟩ en).g (S.n + 4) = b := by
    intro m m' b
    rw [without_g _ (fun h6 => by have := (ho2 _ h6).1; omega), set_g, if_pos rfl]
  have hdis : ∀ (j : Nat), j ∈ nx.ids ∨ j = S.n + 4 → ¬j = 2 := by
    rintro j (h | h)
    · exact hx j h
    · omega
  simp [AW_seq, AW_reg, AW_regD, AW_block, AW_cond, AW_skip, AW_exit, AW_ret, AW_scp, condR_true, condR_false, AThen_normal, AThen_ret, AThen_exit, ABlock_normal, ABlock_ret, ABlock_exit, AScope_normal, AScope_ret, AScope_exit, RetK_ret, RetK_normal, retAV_one, retAV_two, retAV_three, retAV_nil, RG_nil, RG_op, RG_guard, gdR_tt, gdR_ff, gdR_tf, gdR_ft, gdR_un, RG_call, callQ_clo, contK_ap, opR_some, RD_nil, RD_op0, RD_op1, opD0_some, opD1_some, RD_call, callQD_clo, RD_guard, gdD_tt, gdD_ff, gdD_tf, gdD_ft, gdD_un, psh_nil, psh_cons, Apt_nil, Apt_nilT, Apt_true, Apt_false, Dis_def, runT_val, runT_rd, runT_wr, runT_new, runT_mv, ex, put_some, put_none, ev_t, ev_c, argF_zero, argF_succ, set_g, set_n, cells_v, cells_sl, cells_agg, cells_own, cells_ptr, cells_clo, cells_eptr, cells_mp, putc, exBslice, lfill, exField, exIdxV, exIdxP, exBox, exAlloc, exLoad, exStore, exFieldA, exIdxA, exLen, exPick, exUn, exBeq, exMM, exSeq, seqGo, exExt, binV, intOp, subc, AV.solid, S0, encI, encB, c_ph_add, ff.e1, ff.e3, ff.e4, e7, ff.e6, g0, g2]
  rw [Vec.appT hv1 (cells_rv rows2) (by simp [AV.cells]) (by unfold appOk; omega)]
  rcases hb2 with ⟨hb, hph⟩ | ⟨hb, hph⟩
  · simp [AW_seq, AW_reg, AW_regD, AW_block, AW_cond, AW_skip, AW_exit, AW_ret, AW_scp, condR_true, condR_false, AThen_normal, AThen_ret, AThen_exit, ABlock_normal, ABlock_ret, ABlock_exit, AScope_normal, AScope_ret, AScope_exit, RetK_ret, RetK_normal, retAV_one, retAV_two, retAV_three, retAV_nil, RG_nil, RG_op, RG_guard, gdR_tt, gdR_ff, gdR_tf, gdR_ft, gdR_un, RG_call, callQ_clo, contK_ap, opR_some, RD_nil, RD_op0, RD_op1, opD0_some, opD1_some, RD_call, callQD_clo, RD_guard, gdD_tt, gdD_ff, gdD_tf, gdD_ft, gdD_un, psh_nil, psh_cons, Apt_nil, Apt_nilT, Apt_true, Apt_false, Dis_def, runT_val, runT_rd, runT_wr, runT_new, runT_mv, ex, put_some, put_none, ev_t, ev_c, argF_zero, argF_succ, set_g, set_n, cells_v, cells_sl, cells_agg, cells_own, cells_ptr, cells_clo, cells_eptr, cells_mp, putc, exBslice, lfill, exField, exIdxV, exIdxP, exBox, exAlloc, exLoad, exStore, exFieldA, exIdxA, exLen, exPick, exUn, exBeq, exMM, exSeq, seqGo, exExt, binV, intOp, subc, AV.solid, S0, encI, encB, ff.e1, ff.e3, ff.e4, e7, ff.e6, hw0, hw2, hsn2, hsn2', hcs1, hcs2, hb, encDet, encBs, hfI, hgf]
    refine ⟨hdis, ?_⟩
    rw [Vec.appT (xs := ((List.range (3 * s + ph)).map (pgEnd d)).map encB) (hv2' _ _) (by intro z hz; obtain ⟨b, _, rfl⟩ := List.mem_map.mp hz; rfl) (by simp [AV.cells]) (by unfold appOk; simp; omega)]
    simp [AW_seq, AW_reg, AW_regD, AW_block, AW_cond, AW_skip, AW_exit, AW_ret, AW_scp, condR_true, condR_false, AThen_normal, AThen_ret, AThen_exit, ABlock_normal, ABlock_ret, ABlock_exit, AScope_normal, AScope_ret, AScope_exit, RetK_ret, RetK_normal, retAV_one, retAV_two, retAV_three, retAV_nil, RG_nil, RG_op, RG_guard, gdR_tt, gdR_ff, gdR_tf, gdR_ft, gdR_un, RG_call, callQ_clo, contK_ap, opR_some, RD_nil, RD_op0, RD_op1, opD0_some, opD1_some, RD_call, callQD_clo, RD_guard, gdD_tt, gdD_ff, gdD_tf, gdD_ft, gdD_un, psh_nil, psh_cons, Apt_nil, Apt_nilT, Apt_true, Apt_false, Dis_def, runT_val, runT_rd, runT_wr, runT_new, runT_mv, ex, put_some, put_none, ev_t, ev_c, argF_zero, argF_succ, set_g, set_n, cells_v, cells_sl, cells_agg, cells_own, cells_ptr, cells_clo, cells_eptr, cells_mp, putc, exBslice, lfill, exField, exIdxV, exIdxP, exBox, exAlloc, exLoad, exStore, exFieldA, exIdxA, exLen, exPick, exUn, exBeq, exMM, exSeq, seqGo, exExt, binV, intOp, subc, AV.solid, S0, encI, encB, ff.e1, ff.e3, ff.e4, e7, ff.e6, hw22, hsn17, hcs1, hcs2]
    refine hq _ _ _ _ _ ⟨?_, ?_, ?_, ?_, ?_, ?_, ?_, ?_, ?_, ?_⟩ (key _ d.fin[s] ?_ ?_ ?_ ?_ ?_ ?_)
    · simp [put_some, ff.e1]
    · simp [put_some, ff.e2]
    · simp [put_some, ff.e3]
    · simp [put_some, ff.e4]
    · simp [put_some, ff.e5]
    · simp [put_some, ff.e12]
    · simp [put_some, ff.e13]
    · simp [put_some, ff.e14]
    · simp [put_some, ff.e19]
    · simp [put_some, ff.e6]
    · have e1 : (3 * s + ph) % 3 = 2 := by omega
      have e2 : (3 * s + ph) / 3 = s := by omega
      simp [pgEnd, e1, e2, hgf]
    · simp [set_n, without_n]
    · simp [set_g, hrl]
    · intro k hk h1 h2 h3
      simp only [set_g]
      rw [if_neg h1, if_neg h1, if_neg (by omega)]
      exact hwo _ _ _ k hk h2 h3
    · simp only [set_g]
      rw [if_neg hsn2', if_neg hsn2', if_neg (by omega)]
      exact hw4 _ _ _
    · simp only [set_g]
      rw [if_neg (by omega), if_neg (by omega)]
      simp [encB]
  · simp [AW_seq, AW_reg, AW_regD, AW_block, AW_cond, AW_skip, AW_exit, AW_ret, AW_scp, condR_true, condR_false, AThen_normal, AThen_ret, AThen_exit, ABlock_normal, ABlock_ret, ABlock_exit, AScope_normal, AScope_ret, AScope_exit, RetK_ret, RetK_normal, retAV_one, retAV_two, retAV_three, retAV_nil, RG_nil, RG_op, RG_guard, gdR_tt, gdR_ff, gdR_tf, gdR_ft, gdR_un, RG_call, callQ_clo, contK_ap, opR_some, RD_nil, RD_op0, RD_op1, opD0_some, opD1_some, RD_call, callQD_clo, RD_guard, gdD_tt, gdD_ff, gdD_tf, gdD_ft, gdD_un, psh_nil, psh_cons, Apt_nil, Apt_nilT, Apt_true, Apt_false, Dis_def, runT_val, runT_rd, runT_wr, runT_new, runT_mv, ex, put_some, put_none, ev_t, ev_c, argF_zero, argF_succ, set_g, set_n, cells_v, cells_sl, cells_agg, cells_own, cells_ptr, cells_clo, cells_eptr, cells_mp, putc, exBslice, lfill, exField, exIdxV, exIdxP, exBox, exAlloc, exLoad, exStore, exFieldA, exIdxA, exLen, exPick, exUn, exBeq, exMM, exSeq, seqGo, exExt, binV, intOp, subc, AV.solid, S0, encI, encB, ff.e1, ff.e3, ff.e4, e7, ff.e6, hw0, hw2, hsn2, hsn2', hcs1, hcs2, hb, encDet, encBs, hfI, hgf]
    refine ⟨hdis, ?_⟩
    rw [Vec.appT (xs := ((List.range (3 * s + ph)).map (pgEnd d)).map encB) (hv2' _ _) (by intro z hz; obtain ⟨b, _, rfl⟩ := List.mem_map.mp hz; rfl) (by simp [AV.cells]) (by unfold appOk; simp; omega)]
    simp [AW_seq, AW_reg, AW_regD, AW_block, AW_cond, AW_skip, AW_exit, AW_ret, AW_scp, condR_true, condR_false, AThen_normal, AThen_ret, AThen_exit, ABlock_normal, ABlock_ret, ABlock_exit, AScope_normal, AScope_ret, AScope_exit, RetK_ret, RetK_normal, retAV_one, retAV_two, retAV_three, retAV_nil, RG_nil, RG_op, RG_guard, gdR_tt, gdR_ff, gdR_tf, gdR_ft, gdR_un, RG_call, callQ_clo, contK_ap, opR_some, RD_nil, RD_op0, RD_op1, opD0_some, opD1_some, RD_call, callQD_clo, RD_guard, gdD_tt, gdD_ff, gdD_tf, gdD_ft, gdD_un, psh_nil, psh_cons, Apt_nil, Apt_nilT, Apt_true, Apt_false, Dis_def, runT_val, runT_rd, runT_wr, runT_new, runT_mv, ex, put_some, put_none, ev_t, ev_c, argF_zero, argF_succ, set_g, set_n, cells_v, cells_sl, cells_agg, cells_own, cells_ptr, cells_clo, cells_eptr, cells_mp, putc, exBslice, lfill, exField, exIdxV, exIdxP, exBox, exAlloc, exLoad, exStore, exFieldA, exIdxA, exLen, exPick, exUn, exBeq, exMM, exSeq, seqGo, exExt, binV, intOp, subc, AV.solid, S0, encI, encB, ff.e1, ff.e3, ff.e4, e7, ff.e6, hw22, hsn17, hcs1, hcs2]
    refine hq _ _ _ _ _ ⟨?_, ?_, ?_, ?_, ?_, ?_, ?_, ?_, ?_, ?_⟩ (key _ false ?_ ?_ ?_ ?_ ?_ ?_)
    · simp [put_some, ff.e1]
    · simp [put_some, ff.e2]
    · simp [put_some, ff.e3]
    · simp [put_some, ff.e4]
    · simp [put_some, ff.e5]
    · simp [put_some, ff.e12]
    · simp [put_some, ff.e13]
    · simp [put_some, ff.e14]
    · simp [put_some, ff.e19]
    · simp [put_some, ff.e6]
    · have e1 : ¬ (3 * s + ph) % 3 = 2 := by omega
      unfold pgEnd
      rw [decide_eq_false e1]; rfl
    · simp [set_n, without_n]
    · simp [set_g, hrl]
    · intro k hk h1 h2 h3
      simp only [set_g]
      rw [if_neg h1, if_neg h1, if_neg (by omega)]
      exact hwo _ _ _ k hk h2 h3
    · simp only [set_g]
      rw [if_neg hsn2', if_neg hsn2', if_neg (by omega)]
      exact hw4 _ _ _
    · simp only [set_g]
      rw [if_neg (by omega), if_neg (by omega)]
      simp [encB]
def phP (d : Det) (row : List Int) (s : Nat) (m : Nat) (f : AF) (S : St) : Prop :=
  ∃ ph nx en rv, ph ≤ 3 ∧ m = 3 - ph ∧ f 1 = .ptr 0 0 0 ∧ f 2 = .ptr 1 0 0 ∧ f 3 = .ptr 2 0 0 ∧ f 4 = encI s ∧ f 5 = encIs row ∧ f 12 = encIss d.next ∧ f 13 = encI d.next.length ∧ f 14 = encI s ∧ f 19 = encI ph ∧ PhS d (3 * s + ph) nx en rv S
theorem ph_phases {P : Program} {d : Det} (R : RightD d) {sg : Nat} (hsg : d.signs = sg) {row : List Int} {s : Nat} (hs : s < d.next.length) (hrow : d.next[s] = row) {f : AF} {S : St} {Q : Exit → AF → St → Prop} (h0 : phP d row s 3 f S)
    (hq : ∀ f' S' nx en rv, f' 1 = .ptr 0 0 0 → f' 2 = .ptr 1 0 0 → f' 3 = .ptr 2 0 0 → f' 12 = encIss d.next → f' 13 = encI d.next.length → f' 14 = encI s → PhS d (3 * (s + 1)) nx en rv S' → Q .normal f' S') : AW P c_ph_phases Q f S := by
  have hs1 := R.s1
  have hs2 := R.s2
  have hrl : row.length = sg := by have := R.row s hs; rw [hrow] at this; omega
  have q1 : (sg : Int) ≤ 9223372036854775807 := by omega
  have q2 : 8 * (sg : Int) ≤ 281474976710656 := by omega
  simp [AW_seq, AW_reg, AW_regD, AW_block, AW_cond, AW_skip, AW_exit, AW_ret, AW_scp, condR_true, condR_false, AThen_normal, AThen_ret, AThen_exit, ABlock_normal, ABlock_ret, ABlock_exit, AScope_normal, AScope_ret, AScope_exit, RetK_ret, RetK_normal, retAV_one, retAV_two, retAV_three, retAV_nil, RG_nil, RG_op, RG_guard, gdR_tt, gdR_ff, gdR_tf, gdR_ft, gdR_un, RG_call, callQ_clo, contK_ap, opR_some, RD_nil, RD_op0, RD_op1, opD0_some, opD1_some, RD_call, callQD_clo, RD_guard, gdD_tt, gdD_ff, gdD_tf, gdD_ft, gdD_un, psh_nil, psh_cons, Apt_nil, Apt_nilT, Apt_true, Apt_false, Dis_def, runT_val, runT_rd, runT_wr, runT_new, runT_mv, ex, put_some, put_none, ev_t, ev_c, argF_zero, argF_succ, set_g, set_n, cells_v, cells_sl, cells_agg, cells_own, cells_ptr, cells_clo, cells_eptr, cells_mp, putc, exBslice, lfill, exField, exIdxV, exIdxP, exBox, exAlloc, exLoad, exStore, exFieldA, exIdxA, exLen, exPick, exUn, exBeq, exMM, exSeq, seqGo, exExt, binV, intOp, subc, AV.solid, S0, encI, encB, c_ph_phases]
  refine AW_loop (phP d row s) 3 h0 ?_
  rintro m f S ⟨ph, nx, en, rv, hp, rfl, e1, e2, e3, e4, e5, e12, e13, e14, e19, st⟩
  by_cases hlt : ph < 3
  · have hpI : (ph : Int) < 3 := by omega
    have g0 := st.g0
    simp [AW_seq, AW_reg, AW_regD, AW_block, AW_cond, AW_skip, AW_exit, AW_ret, AW_scp, condR_true, condR_false, AThen_normal, AThen_ret, AThen_exit, ABlock_normal, ABlock_ret, ABlock_exit, AScope_normal, AScope_ret, AScope_exit, RetK_ret, RetK_normal, retAV_one, retAV_two, retAV_three, retAV_nil, RG_nil, RG_op, RG_guard, gdR_tt, gdR_ff, gdR_tf, gdR_ft, gdR_un, RG_call, callQ_clo, contK_ap, opR_some, RD_nil, RD_op0, RD_op1, opD0_some, opD1_some, RD_call, callQD_clo, RD_guard, gdD_tt, gdD_ff, gdD_tf, gdD_ft, gdD_un, psh_nil, psh_cons, Apt_nil, Apt_nilT, Apt_true, Apt_false, Dis_def, runT_val, runT_rd, runT_wr, runT_new, runT_mv, ex, put_some, put_none, ev_t, ev_c, argF_zero, argF_succ, set_g, set_n, cells_v, cells_sl, cells_agg, cells_own, cells_ptr, cells_clo, cells_eptr, cells_mp, putc, exBslice, lfill, exField, exIdxV, exIdxP, exBox, exAlloc, exLoad, exStore, exFieldA, exIdxA, exLen, exPick, exUn, exBeq, exMM, exSeq, seqGo, exExt, binV, intOp, subc, AV.solid, S0, encI, encB, e1, e2, e3, e4, e5, e19, g0, encDet, hpI, hsg, exMks, q1, q2, encIs, hrl]
    refine ph_in R hsg (row := row) (c := S.n + 1 + 2 + 2) (n0 := S.n + 1 + 2 + 4 + 3) (g0 := (St.set ⟨S.n + 1 + 2 + 4, S.g⟩ (S.n + 1 + 2 + 2) (some (Blk.arr 1 (List.replicate sg (AV.v (Value.int IntKind.i64 0)))))).g) hs hrow hlt (by omega) ⟨by omega, ?_, ?_, ?_, ?_, ?_, fun _ _ _ => rfl, by simp, ⟨?_, ?_, ?_, ?_, ?_, ?_, ?_, ?_, ?_, ?_⟩⟩ ?_
    · simp [put_some, encI]
    · simp [put_some, encI]
    · simp [put_some, encIs]
    · simp [put_some]
    · simp [set_g, phC, encI]
    · simp [put_some, e1]
    · simp [put_some, e2]
    · simp [put_some, e3]
    · simp [put_some, e4]
    · simp [put_some, e5]
    · simp [put_some, e12]
    · simp [put_some, e13]
    · simp [put_some, e14]
    · simp [put_some, e19]
    · simp [put_some, encI]
    · rintro f' S' ⟨_, _, _, _, k7, kc, ko, kn, kf⟩
      obtain ⟨g0, g1, g2, sn, rows⟩ := st
      have hko : ∀ k, k < S.n → S'.g k = S.g k := fun k hk => by
        rw [ko k (by omega) (by omega), set_g, if_neg (by omega)]
      have hfull : phC d sg s ph sg = pgRow d (3 * s + ph) := by
        unfold phC
        rw [List.take_of_length_le (by rw [pgRow_length R hsg hs hlt]; exact Nat.le_refl _)]
        simp
      rw [hfull] at kc
      simp only [AThen_normal]
      refine ph_add R hsg hs hlt kf k7 kc ⟨by omega, by simp <;> omega, fun w hw h6 => by have := (rows.out w hw _ h6).1; omega⟩ ⟨by rw [hko 0 (by omega)]; exact g0, by rw [hko 1 (by omega)]; exact g1, by rw [hko 2 (by omega)]; exact g2, by omega, rows.frame (by omega) (fun v hv i hi => hko i (rows.out v hv i hi).1)⟩ ?_
      intro f2 S2 nx' en' rv' kf2 st2
      have w1 : IntKind.i64.wrap ((ph : Int) + 1) = (ph : Int) + 1 := wrap_in _ (by omega)
      simp [AW_seq, AW_reg, AW_regD, AW_block, AW_cond, AW_skip, AW_exit, AW_ret, AW_scp, condR_true, condR_false, AThen_normal, AThen_ret, AThen_exit, ABlock_normal, ABlock_ret, ABlock_exit, AScope_normal, AScope_ret, AScope_exit, RetK_ret, RetK_normal, retAV_one, retAV_two, retAV_three, retAV_nil, RG_nil, RG_op, RG_guard, gdR_tt, gdR_ff, gdR_tf, gdR_ft, gdR_un, RG_call, callQ_clo, contK_ap, opR_some, RD_nil, RD_op0, RD_op1, opD0_some, opD1_some, RD_call, callQD_clo, RD_guard, gdD_tt, gdD_ff, gdD_tf, gdD_ft, gdD_un, psh_nil, psh_cons, Apt_nil, Apt_nilT, Apt_true, Apt_false, Dis_def, runT_val, runT_rd, runT_wr, runT_new, runT_mv, ex, put_some, put_none, ev_t, ev_c, argF_zero, argF_succ, set_g, set_n, cells_v, cells_sl, cells_agg, cells_own, cells_ptr, cells_clo, cells_eptr, cells_mp, putc, exBslice, lfill, exField, exIdxV, exIdxP, exBox, exAlloc, exLoad, exStore, exFieldA, exIdxA, exLen, exPick, exUn, exBeq, exMM, exSeq, seqGo, exExt, binV, intOp, subc, AV.solid, S0, encI, encB, kf2.e19, w1]
      obtain ⟨g0, g1, g2, sn, rows⟩ := st2
      refine ⟨3 - (ph + 1), by omega, ph + 1, nx', en', rv', by omega, rfl, ?_, ?_, ?_, ?_, ?_, ?_, ?_, ?_, ?_, ⟨g0, g1, g2, by simp <;> omega, rows.frame (by simp) (fun _ _ _ _ => rfl)⟩⟩
      · simp [put_some, kf2.e1]
      · simp [put_some, kf2.e2]
      · simp [put_some, kf2.e3]
      · simp [put_some, kf2.e4]
      · simp [put_some, kf2.e5]
      · simp [put_some, kf2.e12]
      · simp [put_some, kf2.e13]
      · simp [put_some, kf2.e14]
      · simp [put_some, encI]
  · have : ph = 3 := by omega
    subst this
    simp [AW_seq, AW_reg, AW_regD, AW_block, AW_cond, AW_skip, AW_exit, AW_ret, AW_scp, condR_true, condR_false, AThen_normal, AThen_ret, AThen_exit, ABlock_normal, ABlock_ret, ABlock_exit, AScope_normal, AScope_ret, AScope_exit, RetK_ret, RetK_normal, retAV_one, retAV_two, retAV_three, retAV_nil, RG_nil, RG_op, RG_guard, gdR_tt, gdR_ff, gdR_tf, gdR_ft, gdR_un, RG_call, callQ_clo, contK_ap, opR_some, RD_nil, RD_op0, RD_op1, opD0_some, opD1_some, RD_call, callQD_clo, RD_guard, gdD_tt, gdD_ff, gdD_tf, gdD_ft, gdD_un, psh_nil, psh_cons, Apt_nil, Apt_nilT, Apt_true, Apt_false, Dis_def, runT_val, runT_rd, runT_wr, runT_new, runT_mv, ex, put_some, put_none, ev_t, ev_c, argF_zero, argF_succ, set_g, set_n, cells_v, cells_sl, cells_agg, cells_own, cells_ptr, cells_clo, cells_eptr, cells_mp, putc, exBslice, lfill, exField, exIdxV, exIdxP, exBox, exAlloc, exLoad, exStore, exFieldA, exIdxA, exLen, exPick, exUn, exBeq, exMM, exSeq, seqGo, exExt, binV, intOp, subc, AV.solid, S0, encI, encB, e19]
    refine hq _ _ nx en rv (by simp [put_some, e1]) (by simp [put_some, e2]) (by simp [put_some, e3]) (by simp [put_some, e12]) (by simp [put_some, e13]) (by simp [put_some, e14]) ?_
    obtain ⟨g0, g1, g2, sn, rows⟩ := st
    exact ⟨g0, g1, g2, by simp; omega, rows.frame (by simp) (fun _ _ _ _ => rfl)⟩
def phO (d : Det) (m : Nat) (f : AF) (S : St) : Prop :=
  ∃ s nx en rv, s ≤ d.next.length ∧ m = d.next.length - s ∧ f 1 = .ptr 0 0 0 ∧ f 2 = .ptr 1 0 0 ∧ f 3 = .ptr 2 0 0 ∧ f 12 = encIss d.next ∧ f 13 = encI d.next.length ∧ f 14 = encI s ∧ PhS d (3 * s) nx en rv S
theorem path_phased_body {P : Program} (d : Det) (R : RightD d) : AW P c_path_phased (RetC [.c 2 (some 2)] (FzK (encGr (pg d)))) (argF [encDet d]) S0 := by
  obtain ⟨sg, hsg⟩ : ∃ sg : Nat, d.signs = sg := ⟨d.signs.toNat, by have := R.s1; omega⟩
  have hn2 := R.n2
  simp [AW_seq, AW_reg, AW_regD, AW_block, AW_cond, AW_skip, AW_exit, AW_ret, AW_scp, condR_true, condR_false, AThen_normal, AThen_ret, AThen_exit, ABlock_normal, ABlock_ret, ABlock_exit, AScope_normal, AScope_ret, AScope_exit, RetK_ret, RetK_normal, retAV_one, retAV_two, retAV_three, retAV_nil, RG_nil, RG_op, RG_guard, gdR_tt, gdR_ff, gdR_tf, gdR_ft, gdR_un, RG_call, callQ_clo, contK_ap, opR_some, RD_nil, RD_op0, RD_op1, opD0_some, opD1_some, RD_call, callQD_clo, RD_guard, gdD_tt, gdD_ff, gdD_tf, gdD_ft, gdD_un, psh_nil, psh_cons, Apt_nil, Apt_nilT, Apt_true, Apt_false, Dis_def, runT_val, runT_rd, runT_wr, runT_new, runT_mv, ex, put_some, put_none, ev_t, ev_c, argF_zero, argF_succ, set_g, set_n, cells_v, cells_sl, cells_agg, cells_own, cells_ptr, cells_clo, cells_eptr, cells_mp, putc, exBslice, lfill, exField, exIdxV, exIdxP, exBox, exAlloc, exLoad, exStore, exFieldA, exIdxA, exLen, exPick, exUn, exBeq, exMM, exSeq, seqGo, exExt, binV, intOp, subc, AV.solid, S0, encI, encB, c_path_phased, encDet, encIss]
  refine AW_loop (phO d) d.next.length ⟨0, .sl true [], .sl true [], [], by omega, by omega, ?_, ?_, ?_, ?_, ?_, ?_, ⟨?_, ?_, ?_, ?_, ?_⟩⟩ ?_
  · simp [put_some]
  · simp [put_some]
  · simp [put_some]
  · simp [put_some, encIss]
  · simp [put_some, encIss, encI]
  · simp [put_some, encI]
  · simp [set_g, encDet, encI, encIss]
  · simp [set_g]
  · simp [set_g]
  · simp [set_n]
  · exact .cons .nil (by simp [AV.ids]) (by simp [AV.ids]) (.cons .nil (by simp [AV.ids]) (by simp [AV.ids]) .nil)
  · rintro m f S ⟨s, nx, en, rv, hsl, rfl, e1, e2, e3, e12, e13, e14, st⟩
    by_cases hlt : s < d.next.length
    · have hsI : (s : Int) < d.next.length := by omega
      have hgs : d.next[s]? = some d.next[s] := List.getElem?_eq_getElem hlt
      simp [AW_seq, AW_reg, AW_regD, AW_block, AW_cond, AW_skip, AW_exit, AW_ret, AW_scp, condR_true, condR_false, AThen_normal, AThen_ret, AThen_exit, ABlock_normal, ABlock_ret, ABlock_exit, AScope_normal, AScope_ret, AScope_exit, RetK_ret, RetK_normal, retAV_one, retAV_two, retAV_three, retAV_nil, RG_nil, RG_op, RG_guard, gdR_tt, gdR_ff, gdR_tf, gdR_ft, gdR_un, RG_call, callQ_clo, contK_ap, opR_some, RD_nil, RD_op0, RD_op1, opD0_some, opD1_some, RD_call, callQD_clo, RD_guard, gdD_tt, gdD_ff, gdD_tf, gdD_ft, gdD_un, psh_nil, psh_cons, Apt_nil, Apt_nilT, Apt_true, Apt_false, Dis_def, runT_val, runT_rd, runT_wr, runT_new, runT_mv, ex, put_some, put_none, ev_t, ev_c, argF_zero, argF_succ, set_g, set_n, cells_v, cells_sl, cells_agg, cells_own, cells_ptr, cells_clo, cells_eptr, cells_mp, putc, exBslice, lfill, exField, exIdxV, exIdxP, exBox, exAlloc, exLoad, exStore, exFieldA, exIdxA, exLen, exPick, exUn, exBeq, exMM, exSeq, seqGo, exExt, binV, intOp, subc, AV.solid, S0, encI, encB, e12, e13, e14, encIss, hsI, hgs, encIs]
      refine ph_phases R hsg hlt (row := d.next[s]) rfl ⟨0, nx, en, rv, by omega, rfl, ?_, ?_, ?_, ?_, ?_, ?_, ?_, ?_, ?_, ?_⟩ ?_
      · simp [put_some, e1]
      · simp [put_some, e2]
      · simp [put_some, e3]
      · simp [put_some, encI]
      · simp [put_some, encIs]
      · simp [put_some, e12, encIss]
      · simp [put_some, e13]
      · simp [put_some, e14]
      · simp [put_some, encI]
      · obtain ⟨g0, g1, g2, sn, rows⟩ := st
        exact ⟨g0, g1, g2, by simp <;> omega, rows.frame (by simp <;> omega) (fun _ _ _ _ => rfl)⟩
      · intro f' S' nx' en' rv' k1 k2 k3 k12 k13 k14 st'
        have w1 : IntKind.i64.wrap ((s : Int) + 1) = (s : Int) + 1 := wrap_in _ (by omega)
        simp [AW_seq, AW_reg, AW_regD, AW_block, AW_cond, AW_skip, AW_exit, AW_ret, AW_scp, condR_true, condR_false, AThen_normal, AThen_ret, AThen_exit, ABlock_normal, ABlock_ret, ABlock_exit, AScope_normal, AScope_ret, AScope_exit, RetK_ret, RetK_normal, retAV_one, retAV_two, retAV_three, retAV_nil, RG_nil, RG_op, RG_guard, gdR_tt, gdR_ff, gdR_tf, gdR_ft, gdR_un, RG_call, callQ_clo, contK_ap, opR_some, RD_nil, RD_op0, RD_op1, opD0_some, opD1_some, RD_call, callQD_clo, RD_guard, gdD_tt, gdD_ff, gdD_tf, gdD_ft, gdD_un, psh_nil, psh_cons, Apt_nil, Apt_nilT, Apt_true, Apt_false, Dis_def, runT_val, runT_rd, runT_wr, runT_new, runT_mv, ex, put_some, put_none, ev_t, ev_c, argF_zero, argF_succ, set_g, set_n, cells_v, cells_sl, cells_agg, cells_own, cells_ptr, cells_clo, cells_eptr, cells_mp, putc, exBslice, lfill, exField, exIdxV, exIdxP, exBox, exAlloc, exLoad, exStore, exFieldA, exIdxA, exLen, exPick, exUn, exBeq, exMM, exSeq, seqGo, exExt, binV, intOp, subc, AV.solid, S0, encI, encB, k14, w1]
        obtain ⟨g0, g1, g2, sn, rows⟩ := st'
        refine ⟨d.next.length - (s + 1), by omega, s + 1, nx', en', rv', by omega, rfl, ?_, ?_, ?_, ?_, ?_, ?_, ⟨g0, g1, g2, by simp; omega, rows.frame (by simp) (fun _ _ _ _ => rfl)⟩⟩
        · simp [put_some, k1]
        · simp [put_some, k2]
        · simp [put_some, k3]
        · simp [put_some, k12]
        · simp [put_some, k13]
        · simp [put_some, encI]
    · have : s = d.next.length := by omega
      subst this
      obtain ⟨g0, g1, g2, sn, rows⟩ := st
      simp [AW_seq, AW_reg, AW_regD, AW_block, AW_cond, AW_skip, AW_exit, AW_ret, AW_scp, condR_true, condR_false, AThen_normal, AThen_ret, AThen_exit, ABlock_normal, ABlock_ret, ABlock_exit, AScope_normal, AScope_ret, AScope_exit, RetK_ret, RetK_normal, retAV_one, retAV_two, retAV_three, retAV_nil, RG_nil, RG_op, RG_guard, gdR_tt, gdR_ff, gdR_tf, gdR_ft, gdR_un, RG_call, callQ_clo, contK_ap, opR_some, RD_nil, RD_op0, RD_op1, opD0_some, opD1_some, RD_call, callQD_clo, RD_guard, gdD_tt, gdD_ff, gdD_tf, gdD_ft, gdD_un, psh_nil, psh_cons, Apt_nil, Apt_nilT, Apt_true, Apt_false, Dis_def, runT_val, runT_rd, runT_wr, runT_new, runT_mv, ex, put_some, put_none, ev_t, ev_c, argF_zero, argF_succ, set_g, set_n, cells_v, cells_sl, cells_agg, cells_own, cells_ptr, cells_clo, cells_eptr, cells_mp, putc, exBslice, lfill, exField, exIdxV, exIdxP, exBox, exAlloc, exLoad, exStore, exFieldA, exIdxA, exLen, exPick, exUn, exBeq, exMM, exSeq, seqGo, exExt, binV, intOp, subc, AV.solid, S0, encI, encB, e13, e14, e2, e3, g1, g2]
      obtain ⟨hv1, _, _, rows1⟩ := rows.head
      obtain ⟨hv2, ho2, hs2, rows2⟩ := rows1.head
      have hno : ∀ v ∈ nx :: en :: rv, ∀ i ∈ v.ids, i ≠ 1 := fun v hv i hi e => (rows.out v hv i hi).2 (by subst e; simp)
      have hfr : ∀ {v : AV} {es : Nat} {xs : List AV}, v ∈ nx :: en :: rv → Vec S.g v es xs → Vec (St.set ⟨S.n + 1 + 2, S.g⟩ 1 (some (Blk.arr 2 [AV.agg [nx, en]]))).g v es xs := fun hv h => h.frame (fun i hi => by
        rw [set_g, if_neg (hno _ hv i hi)])
      refine ⟨[.agg [nx, en]], by simp [evC, RV.ev, ldC, put_some, e2, set_g, subc, cells_agg], ?_⟩
      have hrl : rv.length = 3 * d.next.length := by have := rows2.len; simpa using this
      refine Fz.agg _ _ rfl (fun i h1 h2 => ?_)
      match i, h1 with
      | 0, _ =>
        refine (hfr (by simp) hv1).fzL (zs := (pg d).next.map encIs) (by simp [pg, hrl]) (fun i k1 k2 => ?_)
        have hv := rows2.row i k1 (by simp; omega)
        simp only [List.getElem_map, List.getElem_range] at hv
        have := (hfr (v := rv[i]) (by simp) hv).fz closed_I
        simpa [pg, encIs] using this
      | 1, _ =>
        have := (hfr (by simp) hv2).fz (enc := encB) closed_B
        simpa [pg, encBs] using this
end Go.Rf
