import Derived.Test.YtgmbloldekkieaaRfSort
import Derived.Test.YtgmbloldekkieaaRfB11
import Derived.Test.YtgmbloldekkieaaRfM18c
set_option linter.unusedVariables false
set_option linter.unusedSimpArgs false
namespace Go.Rf
def c_mk_pair : AC :=
  (.block 6 (.loop (.seq (.reg none [
               ⟨(some 66), .bin .lss (.t 65) (.t 64), none, none⟩])
              (.seq (.cond (.t 66) .skip (.exit 6))
              (.seq (.block 7 (.seq (.reg none [
                ⟨(some 67), .idxA 1 (.t 63) (.t 65), none, none⟩,
                ⟨(some 68), .load none (.t 67), none, none⟩,
                ⟨(some 14), .mv (.t 68), none, none⟩])
               (.seq (.reg none [
                ⟨(some 69), .mv (.t 14), none, none⟩,
                ⟨(some 70), .bin .neq (.t 69) (.c (.v (.int .i64 (-1)))), none, none⟩,
                ⟨(some 71), .mv (.t 70), none, none⟩,
                ⟨(some 72), .mv (.t 6), (some (71, true)), none⟩,
                ⟨(some 73), .mv (.t 14), (some (71, true)), none⟩,
                ⟨(some 74), .idxA 1 (.t 72) (.t 73), (some (71, true)), none⟩,
                ⟨(some 75), .load none (.t 74), (some (71, true)), none⟩,
                ⟨(some 76), .mv (.t 8), (some (71, true)), none⟩,
                ⟨(some 77), .bin .eql (.t 75) (.t 76), (some (71, true)), none⟩,
                ⟨(some 78), .pick (.t 71) (.t 77) (.c (.v (.bool false))), none, none⟩])
               (.cond (.t 78) (.reg none [
                 ⟨(some 79), .mv (.t 10), none, none⟩,
                 ⟨(some 80), .mv (.t 14), none, none⟩,
                 ⟨(some 81), .bslice 1 1 (.v (.int .i64 0)) [(0, (.t 80))], none, none⟩,
                 ⟨(some 82), .app 1 8 (.t 79) (.t 81), none, none⟩,
                 ⟨(some 10), .mv (.t 82), none, none⟩]) .skip))))
              (.reg none [
               ⟨(some 83), .bin .add (.t 65) (.c (.v (.int .i64 1))), none, none⟩,
               ⟨(some 65), .mv (.t 83), none, none⟩]))))))
def c_mk_at : AC :=
  (.block 4 (.loop (.seq (.reg none [
            ⟨(some 50), .bin .lss (.t 49) (.t 48), none, none⟩])
           (.seq (.cond (.t 50) .skip (.exit 4))
           (.seq (.block 5 (.seq (.reg none [
             ⟨(some 51), .idxA 1 (.t 47) (.t 49), none, none⟩,
             ⟨(some 52), .load none (.t 51), none, none⟩,
             ⟨(some 12), .mv (.t 52), none, none⟩])
            (.seq (.reg none [
             ⟨(some 53), .fieldA 0 (.t 5), none, none⟩,
             ⟨(some 54), .load none (.t 53), none, none⟩,
             ⟨(some 55), .mv (.t 12), none, none⟩,
             ⟨(some 56), .idxA 1 (.t 54) (.t 55), none, none⟩,
             ⟨(some 57), .load none (.t 56), none, none⟩,
             ⟨(some 58), .mv (.t 9), none, none⟩,
             ⟨(some 59), .bin .mul (.c (.v (.int .i64 2))) (.t 58), none, none⟩,
             ⟨(some 60), .mv (.t 9), none, none⟩,
             ⟨(some 61), .bin .mul (.c (.v (.int .i64 2))) (.t 60), none, none⟩,
             ⟨(some 62), .bin .add (.t 61) (.c (.v (.int .i64 2))), none, none⟩,
             ⟨(some 63), .slc 1 (.t 57) (some (.t 59)) (some (.t 62)), none, none⟩,
             ⟨(some 64), .len (.t 63), none, none⟩,
             ⟨(some 65), .mv (.c (.v (.int .i64 0))), none, none⟩])
            c_mk_pair)))
           (.reg none [
            ⟨(some 84), .bin .add (.t 49) (.c (.v (.int .i64 1))), none, none⟩,
            ⟨(some 49), .mv (.t 84), none, none⟩]))))))
def c_mk_tail (f_slices_Sort_Sint_int_ f_slices_Compact_Sint_int_ : FuncId) : AC :=
  (.seq (.reg none [
          ⟨(some 85), .mv (.t 10), none, none⟩,
          ⟨(some 86), .len (.t 85), none, none⟩,
          ⟨(some 87), .bin .gtr (.t 86) (.c (.v (.int .i64 0))), none, none⟩])
         (.cond (.t 87) (.seq (.reg none [
           ⟨(some 88), .mv (.t 10), none, none⟩,
           ⟨(some 89), .mv (.c .junk), none, (some ((.c (.clo f_slices_Sort_Sint_int_ [] [])), [(.t 88)]))⟩])
          (.seq (.reg none [
           ⟨(some 90), .mv (.t 10), none, none⟩,
           ⟨(some 91), .mv (.c .junk), none, (some ((.c (.clo f_slices_Compact_Sint_int_ [] [])), [(.t 90)]))⟩,
           ⟨(some 7), .mv (.t 91), none, none⟩])
          (.seq (.reg none [
           ⟨(some 92), .mv (.t 2), none, none⟩,
           ⟨(some 93), .mv (.t 9), none, none⟩,
           ⟨(some 94), .bslice 1 1 (.v (.int .i64 0)) [(0, (.t 93))], none, none⟩,
           ⟨(some 95), .app 1 8 (.t 92) (.t 94), none, none⟩,
           ⟨(some 2), .mv (.t 95), none, none⟩])
          (.exit 1)))) .skip))
def c_mk_half (f_slices_Sort_Sint_int_ f_slices_Compact_Sint_int_ : FuncId) : AC :=
  (.block 2 (.loop (.seq (.reg none [
         ⟨(some 45), .bin .lss (.t 44) (.t 43), none, none⟩])
        (.seq (.cond (.t 45) .skip (.exit 2))
        (.seq (.block 3 (.seq (.reg none [
          ⟨(some 46), .mv (.t 44), none, none⟩,
          ⟨(some 9), .mv (.t 46), none, none⟩])
         (.seq (.reg none [
          ⟨(some 10), .mv (.c (.sl true [])), none, none⟩])
         (.seq (.seq (.reg none [
          ⟨(some 47), .mv (.t 7), none, none⟩,
          ⟨(some 48), .len (.t 47), none, none⟩,
          ⟨(some 49), .mv (.c (.v (.int .i64 0))), none, none⟩])
         c_mk_at)
         (c_mk_tail f_slices_Sort_Sint_int_ f_slices_Compact_Sint_int_)))))
        (.reg none [
         ⟨(some 96), .bin .add (.t 44) (.c (.v (.int .i64 1))), none, none⟩,
         ⟨(some 44), .mv (.t 96), none, none⟩]))))))
def c_mk_left (f_slices_Sort_Sint_int_ f_slices_Compact_Sint_int_ : FuncId) : AC :=
  (.block 0 (.loop (.seq (.seq (.reg none [
      ⟨(some 37), .mv (.t 8), none, none⟩,
      ⟨(some 38), .bin .geq (.t 37) (.c (.v (.int .i64 0))), none, none⟩])
     (.cond (.t 38) .skip (.exit 0)))
     (.seq (.block 1 (.seq (.reg none [
       ⟨(some 41), .fieldA 0 (.t 1), none, none⟩,
       ⟨(some 42), .load none (.t 41), none, none⟩,
       ⟨(some 43), .bin .quo (.t 42) (.c (.v (.int .i64 2))), none, none⟩,
       ⟨(some 44), .mv (.c (.v (.int .i64 0))), none, none⟩])
      (c_mk_half f_slices_Sort_Sint_int_ f_slices_Compact_Sint_int_)))
     (.reg none [
      ⟨(some 39), .mv (.t 8), none, none⟩,
      ⟨(some 40), .bin .sub (.t 39) (.c (.v (.int .i64 1))), none, none⟩,
      ⟨(some 8), .mv (.t 40), none, none⟩])))))
def c_mk_place (f_path_Write f_det_Accepts : FuncId) : AC :=
  (.block 8 (.loop (.seq (.seq (.reg (some []) [
      ⟨(some 97), .load (some 3) (.t 1), none, none⟩,
      ⟨(some 98), .mv (.t 2), none, none⟩,
      ⟨(some 99), .mv (.t 3), none, none⟩,
      ⟨(some 100), .mv (.c .junk), none, (some ((.c (.clo f_path_Write [] [])), [(.t 98), (.t 99)]))⟩,
      ⟨(some 101), .mv (.c .junk), none, (some ((.c (.clo f_det_Accepts [] [])), [(.t 97), (.t 100)]))⟩,
      ⟨(some 102), .un .not (.t 101), none, none⟩])
     (.cond (.t 102) .skip (.exit 8)))
     (.seq (.block 9 .skip)
     (.reg none [
      ⟨(some 103), .mv (.t 3), none, none⟩,
      ⟨(some 104), .bin .add (.t 103) (.c (.v (.int .i64 1))), none, none⟩,
      ⟨(some 3), .mv (.t 104), none, none⟩])))))
def c_mk_end (f_path_Write f_det_Accepts : FuncId) : AC :=
  (.seq (.seq (.reg none [
    ⟨(some 3), .mv (.c (.v (.int .i64 1))), none, none⟩])
   (c_mk_place f_path_Write f_det_Accepts))
   (.seq (.reg none [
    ⟨(some 105), .mv (.t 2), none, none⟩,
    ⟨(some 106), .mv (.t 3), none, none⟩,
    ⟨(some 2), .mv (.t 105), none, none⟩,
    ⟨(some 3), .mv (.t 106), none, none⟩,
    ⟨(some 4), .mv (.c (.v (.bool true))), none, none⟩])
   .ret))
def c_path_Marked (f_det_Right f_path_phased f_path_graph_far f_slices_Sort_Sint_int_ f_slices_Compact_Sint_int_ f_path_Write f_det_Accepts : FuncId) : AC :=
  (.seq (.reg none [
   ⟨(some 1), .box 3 (.t 0), none, none⟩,
   ⟨(some 2), .mv (.c (.sl true [])), none, none⟩,
   ⟨(some 3), .mv (.c (.v (.int .i64 0))), none, none⟩,
   ⟨(some 4), .mv (.c (.v (.bool false))), none, none⟩])
  (.scp (.seq (.seq (.reg none [
    ⟨(some 15), .load (some 3) (.t 1), none, none⟩,
    ⟨(some 16), .mv (.c .junk), none, (some ((.c (.clo f_det_Right [] [])), [(.t 15)]))⟩,
    ⟨(some 17), .un .not (.t 16), none, none⟩,
    ⟨(some 18), .mv (.t 17), none, none⟩,
    ⟨(some 19), .fieldA 0 (.t 1), (some (18, false)), none⟩,
    ⟨(some 20), .load none (.t 19), (some (18, false)), none⟩,
    ⟨(some 21), .bin .and (.t 20) (.c (.v (.int .i64 1))), (some (18, false)), none⟩,
    ⟨(some 22), .bin .eql (.t 21) (.c (.v (.int .i64 1))), (some (18, false)), none⟩,
    ⟨(some 23), .pick (.t 18) (.c (.v (.bool true))) (.t 22), none, none⟩])
   (.cond (.t 23) (.seq (.reg none [
     ⟨(some 2), .mv (.c (.sl true [])), none, none⟩,
     ⟨(some 3), .mv (.c (.v (.int .i64 0))), none, none⟩,
     ⟨(some 4), .mv (.c (.v (.bool false))), none, none⟩])
    .ret) .skip))
   (.seq (.reg none [
    ⟨(some 24), .load (some 3) (.t 1), none, none⟩,
    ⟨(some 25), .mv (.c .junk), none, (some ((.c (.clo f_path_phased [] [])), [(.t 24)]))⟩,
    ⟨(some 5), .alloc (.agg [(.sl true []), (.sl true [])]) 2, none, none⟩,
    ⟨none, .store 2 (.t 5) (.t 25), none, none⟩])
   (.seq (.reg none [
    ⟨(some 26), .load (some 2) (.t 5), none, none⟩,
    ⟨(some 27), .mv (.c .junk), none, (some ((.c (.clo f_path_graph_far [] [])), [(.t 26)]))⟩,
    ⟨(some 6), .mv (.t 27), none, none⟩])
   (.seq (.seq (.reg none [
    ⟨(some 28), .mv (.t 6), none, none⟩,
    ⟨(some 29), .idxA 1 (.t 28) (.c (.v (.int .i64 0))), none, none⟩,
    ⟨(some 30), .load none (.t 29), none, none⟩,
    ⟨(some 31), .bin .eql (.t 30) (.c (.v (.int .i64 (-1)))), none, none⟩])
   (.cond (.t 31) (.seq (.reg none [
     ⟨(some 2), .mv (.c (.sl true [])), none, none⟩,
     ⟨(some 3), .mv (.c (.v (.int .i64 0))), none, none⟩,
     ⟨(some 4), .mv (.c (.v (.bool false))), none, none⟩])
    .ret) .skip))
   (.seq (.reg none [
    ⟨(some 32), .bslice 1 1 (.v (.int .i64 0)) [(0, (.c (.v (.int .i64 0))))], none, none⟩,
    ⟨(some 7), .mv (.t 32), none, none⟩])
   (.seq .skip
   (.seq (.seq (.reg none [
    ⟨(some 33), .mv (.t 6), none, none⟩,
    ⟨(some 34), .idxA 1 (.t 33) (.c (.v (.int .i64 0))), none, none⟩,
    ⟨(some 35), .load none (.t 34), none, none⟩,
    ⟨(some 36), .bin .sub (.t 35) (.c (.v (.int .i64 1))), none, none⟩,
    ⟨(some 8), .mv (.t 36), none, none⟩])
   (c_mk_left f_slices_Sort_Sint_int_ f_slices_Compact_Sint_int_))
   (c_mk_end f_path_Write f_det_Accepts))))))))))

/-- A list that is looked at: at hand, or one's own. -/
def AtV (g : Nat → Option Blk) (v : AV) (l : List Int) : Prop := v = .sl true (l.map encI) ∨ ∃ id off ys, v = .own id off l.length ∧ g id = some (.arr 1 ys) ∧ off + l.length = ys.length ∧ ys.drop off = l.map encI
theorem AtV.frame {g g' : Nat → Option Blk} {v : AV} {l : List Int} (h : AtV g v l) (hs : ∀ i ∈ v.ids, g' i = g i) : AtV g' v l := by
  rcases h with h | ⟨id, off, ys, rfl, h1, h2, h3⟩
  · exact .inl h
  · exact .inr ⟨id, off, ys, rfl, by rw [hs id (by simp [AV.ids])]; exact h1, h2, h3⟩
structure MkF (d : Det) (far : List Int) (left : Int) (half : Nat) (hn : Nat) (v2 va : AV) (f : AF) : Prop where
  e1 : f 1 = .ptr 0 0 0
  e2 : f 2 = v2
  e5 : f 5 = .ptr 15 0 0
  e6 : f 6 = encIs far
  e7 : f 7 = va
  e8 : f 8 = encI left
  e9 : f 9 = encI half
  e43 : f 43 = encI hn
  e44 : f 44 = encI half
structure Hf (nB : Nat) (gB : Nat → Option Blk) (to : List Int) (f : AF) (S : St) : Prop where
  go : ∀ k, k < nB → S.g k = gB k
  n : nB ≤ S.n
  v : Vec S.g (f 10) 1 (to.map encI)
  ids : ∀ i ∈ (f 10).ids, nB ≤ i ∧ i < S.n
def okT (far : List Int) (left : Int) (t : Int) : Bool := (t != -1) && (rd far t.toNat == left)
def mkP (d : Det) (far : List Int) (left : Int) (half hn : Nat) (v2 va : AV) (nB : Nat) (gB : Nat → Option Blk) (to0 pair : List Int) (va47 : AV) (l48 j : Nat) (m : Nat) (f : AF) (S : St) : Prop :=
  ∃ k t, k ≤ pair.length ∧ m = pair.length - k ∧ f 65 = encI k ∧ f 64 = encI pair.length ∧ f 63 = .sl t (pair.map encI) ∧ f 47 = va47 ∧ f 48 = encI l48 ∧ f 49 = encI j ∧ MkF d far left half hn v2 va f ∧ Hf nB gB (to0 ++ (pair.take k).filter (okT far left)) f S
theorem mk_pair {P : Program} {d : Det} {far : List Int} {left : Int} {half hn : Nat} {v2 va : AV} {nB : Nat} {gB : Nat → Option Blk} {to0 pair : List Int} {va47 : AV} {l48 j : Nat} (hp : pair.length ≤ 2) (hin : ∀ t ∈ pair, -1 ≤ t ∧ t < far.length) (hto : to0.length ≤ 1000000) {f : AF} {S : St} {Q : Exit → AF → St → Prop}
    (h0 : mkP d far left half hn v2 va nB gB to0 pair va47 l48 j pair.length f S)
    (hq : ∀ f' S', f' 47 = va47 → f' 48 = encI l48 → f' 49 = encI j → MkF d far left half hn v2 va f' → Hf nB gB (to0 ++ pair.filter (okT far left)) f' S' → Q .normal f' S') : AW P c_mk_pair Q f S := by
  simp [AW_seq, AW_reg, AW_regD, AW_block, AW_cond, AW_skip, AW_exit, AW_ret, AW_scp, condR_true, condR_false, AThen_normal, AThen_ret, AThen_exit, ABlock_normal, ABlock_ret, ABlock_exit, AScope_normal, AScope_ret, AScope_exit, RetK_ret, RetK_normal, retAV_one, retAV_two, retAV_three, retAV_nil, RG_nil, RG_op, RG_guard, gdR_tt, gdR_ff, gdR_tf, gdR_ft, gdR_un, RG_call, callQ_clo, contK_ap, opR_some, RD_nil, RD_op0, RD_op1, opD0_some, opD1_some, RD_call, callQD_clo, RD_guard, gdD_tt, gdD_ff, gdD_tf, gdD_ft, gdD_un, psh_nil, psh_cons, Apt_nil, Apt_nilT, Apt_true, Apt_false, Dis_def, runT_val, runT_rd, runT_wr, runT_new, runT_mv, ex, put_some, put_none, ev_t, ev_c, argF_zero, argF_succ, set_g, set_n, cells_v, cells_sl, cells_agg, cells_own, cells_ptr, cells_clo, cells_eptr, cells_mp, putc, exBslice, lfill, exField, exIdxV, exIdxP, exBox, exAlloc, exLoad, exStore, exFieldA, exIdxA, exLen, exPick, exUn, exBeq, exMM, exSeq, seqGo, exExt, binV, intOp, subc, AV.solid, S0, encI, encB, c_mk_pair]
  refine AW_loop (mkP d far left half hn v2 va nB gB to0 pair va47 l48 j) pair.length h0 ?_
  rintro m f S ⟨k, t, hk, rfl, e65, e64, e63, e47, e48, e49, ff, hf⟩
  by_cases hlt : k < pair.length
  · have hkI : (k : Int) < pair.length := by omega
    have hgp : pair[k]? = some pair[k] := List.getElem?_eq_getElem hlt
    obtain ⟨i1, i2⟩ := hin _ (List.getElem_mem hlt)
    have w1 : IntKind.i64.wrap ((k : Int) + 1) = (k : Int) + 1 := wrap_in _ (by omega)
    have htake : (pair.take (k + 1)).filter (okT far left) = (pair.take k).filter (okT far left) ++ (if okT far left pair[k] = true then [pair[k]] else []) := by
      rw [List.take_add_one, hgp, List.filter_append]
      simp only [Option.toList_some, List.filter_cons, List.filter_nil]
    have fin : ∀ (f2 : AF) (S2 : St), f2 65 = encI ((k : Int) + 1) → f2 64 = encI pair.length → f2 63 = .sl t (pair.map encI) → f2 47 = va47 → f2 48 = encI l48 → f2 49 = encI j → MkF d far left half hn v2 va f2 →
        Hf nB gB (to0 ++ ((pair.take k).filter (okT far left) ++ (if okT far left pair[k] = true then [pair[k]] else []))) f2 S2 → INext (mkP d far left half hn v2 va nB gB to0 pair va47 l48 j) (pair.length - k) f2 S2 := by
      intro f2 S2 a65 a64 a63 a47 a48 a49 af ah
      exact ⟨pair.length - (k + 1), by omega, k + 1, t, by omega, rfl, by rw [a65]; simp [encI], a64, a63, a47, a48, a49, af, by rw [htake]; exact ah⟩
    by_cases hno : pair[k] = -1
    · have hb : (pair[k] != -1) = false := by simp [hno]
      have hok : okT far left pair[k] = false := by unfold okT; rw [hb]; rfl
      rw [hok] at fin
      simp [AW_seq, AW_reg, AW_regD, AW_block, AW_cond, AW_skip, AW_exit, AW_ret, AW_scp, condR_true, condR_false, AThen_normal, AThen_ret, AThen_exit, ABlock_normal, ABlock_ret, ABlock_exit, AScope_normal, AScope_ret, AScope_exit, RetK_ret, RetK_normal, retAV_one, retAV_two, retAV_three, retAV_nil, RG_nil, RG_op, RG_guard, gdR_tt, gdR_ff, gdR_tf, gdR_ft, gdR_un, RG_call, callQ_clo, contK_ap, opR_some, RD_nil, RD_op0, RD_op1, opD0_some, opD1_some, RD_call, callQD_clo, RD_guard, gdD_tt, gdD_ff, gdD_tf, gdD_ft, gdD_un, psh_nil, psh_cons, Apt_nil, Apt_nilT, Apt_true, Apt_false, Dis_def, runT_val, runT_rd, runT_wr, runT_new, runT_mv, ex, put_some, put_none, ev_t, ev_c, argF_zero, argF_succ, set_g, set_n, cells_v, cells_sl, cells_agg, cells_own, cells_ptr, cells_clo, cells_eptr, cells_mp, putc, exBslice, lfill, exField, exIdxV, exIdxP, exBox, exAlloc, exLoad, exStore, exFieldA, exIdxA, exLen, exPick, exUn, exBeq, exMM, exSeq, seqGo, exExt, binV, intOp, subc, AV.solid, S0, encI, encB, e65, e64, e63, ff.e6, ff.e8, hkI, hgp, hb, w1]
      refine fin _ _ ?_ ?_ ?_ ?_ ?_ ?_ ⟨?_, ?_, ?_, ?_, ?_, ?_, ?_, ?_, ?_⟩ ?_
      · simp [put_some, encI]
      · simp [put_some, e64, encI]
      · simp [put_some, e63]
      · simp [put_some, e47]
      · simp [put_some, e48]
      · simp [put_some, e49]
      · simp [put_some, ff.e1]
      · simp [put_some, ff.e2]
      · simp [put_some, ff.e5]
      · simp [put_some, ff.e6, encIs]
      · simp [put_some, ff.e7]
      · simp [put_some, ff.e8]
      · simp [put_some, ff.e9]
      · simp [put_some, ff.e43]
      · simp [put_some, ff.e44]
      · obtain ⟨go, n, v, ids⟩ := hf
        refine ⟨go, by simp <;> omega, by simpa [put_some] using v, fun i hi => ?_⟩
        have := ids i (by simpa [put_some] using hi)
        simp; omega
    · have hb : (pair[k] != -1) = true := by simp [hno]
      have h0t : 0 ≤ pair[k] := by omega
      have htf : (pair[k]).toNat < far.length := by omega
      have hgt : far[(pair[k]).toNat]? = some far[(pair[k]).toNat] := List.getElem?_eq_getElem htf
      have hrt := rd_get htf
      by_cases hl : far[(pair[k]).toNat] = left
      · have hlb : (far[(pair[k]).toNat] == left) = true := by simp [hl]
        have hok : okT far left pair[k] = true := by unfold okT; rw [hb, ← hrt, hlb]; rfl
        rw [hok] at fin
        have happ := fun (n nid : Nat) => Vec.app (n := n) (nid := nid) (x := .v (.int .i64 pair[k])) (by_ := 8) hf.v (cells_I _) (by simp [AV.cells]) (appOk8 (by
          rw [List.length_map, List.length_append]
          have := List.length_filter_le (okT far left) (pair.take k)
          simp at this; omega))
        have hnB := hf.n
        simp [AW_seq, AW_reg, AW_regD, AW_block, AW_cond, AW_skip, AW_exit, AW_ret, AW_scp, condR_true, condR_false, AThen_normal, AThen_ret, AThen_exit, ABlock_normal, ABlock_ret, ABlock_exit, AScope_normal, AScope_ret, AScope_exit, RetK_ret, RetK_normal, retAV_one, retAV_two, retAV_three, retAV_nil, RG_nil, RG_op, RG_guard, gdR_tt, gdR_ff, gdR_tf, gdR_ft, gdR_un, RG_call, callQ_clo, contK_ap, opR_some, RD_nil, RD_op0, RD_op1, opD0_some, opD1_some, RD_call, callQD_clo, RD_guard, gdD_tt, gdD_ff, gdD_tf, gdD_ft, gdD_un, psh_nil, psh_cons, Apt_nil, Apt_nilT, Apt_true, Apt_false, Dis_def, runT_val, runT_rd, runT_wr, runT_new, runT_mv, ex, put_some, put_none, ev_t, ev_c, argF_zero, argF_succ, set_g, set_n, cells_v, cells_sl, cells_agg, cells_own, cells_ptr, cells_clo, cells_eptr, cells_mp, putc, exBslice, lfill, exField, exIdxV, exIdxP, exBox, exAlloc, exLoad, exStore, exFieldA, exIdxA, exLen, exPick, exUn, exBeq, exMM, exSeq, seqGo, exExt, binV, intOp, subc, AV.solid, S0, encI, encB, e65, e64, e63, ff.e6, ff.e8, hkI, hgp, hb, w1, encIs, h0t, i2, hgt, hlb]
        rw [happ]
        simp [AW_seq, AW_reg, AW_regD, AW_block, AW_cond, AW_skip, AW_exit, AW_ret, AW_scp, condR_true, condR_false, AThen_normal, AThen_ret, AThen_exit, ABlock_normal, ABlock_ret, ABlock_exit, AScope_normal, AScope_ret, AScope_exit, RetK_ret, RetK_normal, retAV_one, retAV_two, retAV_three, retAV_nil, RG_nil, RG_op, RG_guard, gdR_tt, gdR_ff, gdR_tf, gdR_ft, gdR_un, RG_call, callQ_clo, contK_ap, opR_some, RD_nil, RD_op0, RD_op1, opD0_some, opD1_some, RD_call, callQD_clo, RD_guard, gdD_tt, gdD_ff, gdD_tf, gdD_ft, gdD_un, psh_nil, psh_cons, Apt_nil, Apt_nilT, Apt_true, Apt_false, Dis_def, runT_val, runT_rd, runT_wr, runT_new, runT_mv, ex, put_some, put_none, ev_t, ev_c, argF_zero, argF_succ, set_g, set_n, cells_v, cells_sl, cells_agg, cells_own, cells_ptr, cells_clo, cells_eptr, cells_mp, putc, exBslice, lfill, exField, exIdxV, exIdxP, exBox, exAlloc, exLoad, exStore, exFieldA, exIdxA, exLen, exPick, exUn, exBeq, exMM, exSeq, seqGo, exExt, binV, intOp, subc, AV.solid, S0, encI, encB, e65, w1]
        refine fin _ _ ?_ ?_ ?_ ?_ ?_ ?_ ⟨?_, ?_, ?_, ?_, ?_, ?_, ?_, ?_, ?_⟩ ?_
        · simp [put_some, encI]
        · simp [put_some, e64, encI]
        · simp [put_some, e63]
        · simp [put_some, e47]
        · simp [put_some, e48]
        · simp [put_some, e49]
        · simp [put_some, ff.e1]
        · simp [put_some, ff.e2]
        · simp [put_some, ff.e5]
        · simp [put_some, ff.e6, encIs]
        · simp [put_some, ff.e7]
        · simp [put_some, ff.e8]
        · simp [put_some, ff.e9]
        · simp [put_some, ff.e43]
        · simp [put_some, ff.e44]
        · refine ⟨fun k hk => ?_, by simp [without_n] <;> omega, ?_, fun i hi => ?_⟩
          · simp only [set_g]
            rw [if_neg (by omega), without_g k (fun h6 => by have := (hf.ids k h6).1; omega)]
            exact hf.go k hk
          · simp only [put_some]
            simp only [Nat.reduceEqDiff, if_false, if_true]
            refine .mk' (by simp [set_g, encI]) (by simp; omega)
          · simp [put_some, AV.ids] at hi
            subst hi
            simp [without_n]; omega
      · have hlb : (far[(pair[k]).toNat] == left) = false := by simp [hl]
        have hok : okT far left pair[k] = false := by unfold okT; rw [hb, ← hrt, hlb]; rfl
        rw [hok] at fin
        simp [AW_seq, AW_reg, AW_regD, AW_block, AW_cond, AW_skip, AW_exit, AW_ret, AW_scp, condR_true, condR_false, AThen_normal, AThen_ret, AThen_exit, ABlock_normal, ABlock_ret, ABlock_exit, AScope_normal, AScope_ret, AScope_exit, RetK_ret, RetK_normal, retAV_one, retAV_two, retAV_three, retAV_nil, RG_nil, RG_op, RG_guard, gdR_tt, gdR_ff, gdR_tf, gdR_ft, gdR_un, RG_call, callQ_clo, contK_ap, opR_some, RD_nil, RD_op0, RD_op1, opD0_some, opD1_some, RD_call, callQD_clo, RD_guard, gdD_tt, gdD_ff, gdD_tf, gdD_ft, gdD_un, psh_nil, psh_cons, Apt_nil, Apt_nilT, Apt_true, Apt_false, Dis_def, runT_val, runT_rd, runT_wr, runT_new, runT_mv, ex, put_some, put_none, ev_t, ev_c, argF_zero, argF_succ, set_g, set_n, cells_v, cells_sl, cells_agg, cells_own, cells_ptr, cells_clo, cells_eptr, cells_mp, putc, exBslice, lfill, exField, exIdxV, exIdxP, exBox, exAlloc, exLoad, exStore, exFieldA, exIdxA, exLen, exPick, exUn, exBeq, exMM, exSeq, seqGo, exExt, binV, intOp, subc, AV.solid, S0, encI, encB, e65, e64, e63, ff.e6, ff.e8, hkI, hgp, hb, w1, encIs, h0t, i2, hgt, hlb]
        refine fin _ _ ?_ ?_ ?_ ?_ ?_ ?_ ⟨?_, ?_, ?_, ?_, ?_, ?_, ?_, ?_, ?_⟩ ?_
        · simp [put_some, encI]
        · simp [put_some, e64, encI]
        · simp [put_some, e63]
        · simp [put_some, e47]
        · simp [put_some, e48]
        · simp [put_some, e49]
        · simp [put_some, ff.e1]
        · simp [put_some, ff.e2]
        · simp [put_some, ff.e5]
        · simp [put_some, ff.e6, encIs]
        · simp [put_some, ff.e7]
        · simp [put_some, ff.e8]
        · simp [put_some, ff.e9]
        · simp [put_some, ff.e43]
        · simp [put_some, ff.e44]
        · obtain ⟨go, n, v, ids⟩ := hf
          refine ⟨go, by simp <;> omega, by simpa [put_some] using v, fun i hi => ?_⟩
          have := ids i (by simpa [put_some] using hi)
          simp; omega
  · have : k = pair.length := by omega
    subst this
    simp [AW_seq, AW_reg, AW_regD, AW_block, AW_cond, AW_skip, AW_exit, AW_ret, AW_scp, condR_true, condR_false, AThen_normal, AThen_ret, AThen_exit, ABlock_normal, ABlock_ret, ABlock_exit, AScope_normal, AScope_ret, AScope_exit, RetK_ret, RetK_normal, retAV_one, retAV_two, retAV_three, retAV_nil, RG_nil, RG_op, RG_guard, gdR_tt, gdR_ff, gdR_tf, gdR_ft, gdR_un, RG_call, callQ_clo, contK_ap, opR_some, RD_nil, RD_op0, RD_op1, opD0_some, opD1_some, RD_call, callQD_clo, RD_guard, gdD_tt, gdD_ff, gdD_tf, gdD_ft, gdD_un, psh_nil, psh_cons, Apt_nil, Apt_nilT, Apt_true, Apt_false, Dis_def, runT_val, runT_rd, runT_wr, runT_new, runT_mv, ex, put_some, put_none, ev_t, ev_c, argF_zero, argF_succ, set_g, set_n, cells_v, cells_sl, cells_agg, cells_own, cells_ptr, cells_clo, cells_eptr, cells_mp, putc, exBslice, lfill, exField, exIdxV, exIdxP, exBox, exAlloc, exLoad, exStore, exFieldA, exIdxA, exLen, exPick, exUn, exBeq, exMM, exSeq, seqGo, exExt, binV, intOp, subc, AV.solid, S0, encI, encB, e65, e64]
    obtain ⟨go, n, v, ids⟩ := hf
    rw [List.take_length] at v
    refine hq _ _ (by simp [put_some, e47]) (by simp [put_some, e48]) (by simp [put_some, e49]) ⟨by simp [put_some, ff.e1], by simp [put_some, ff.e2], by simp [put_some, ff.e5], by simp [put_some, ff.e6], by simp [put_some, ff.e7], by simp [put_some, ff.e8], by simp [put_some, ff.e9], by simp [put_some, ff.e43], by simp [put_some, ff.e44]⟩
      ⟨go, by simp; omega, by simpa [put_some] using v, fun i hi => by
        have := ids i (by simpa [put_some] using hi)
        simp; omega⟩
def mkA (d : Det) (far : List Int) (left : Int) (half hn : Nat) (v2 va : AV) (nB : Nat) (gB : Nat → Option Blk) (at_ : List Int) (m : Nat) (f : AF) (S : St) : Prop :=
  ∃ j, j ≤ at_.length ∧ m = at_.length - j ∧ f 47 = va ∧ f 48 = encI at_.length ∧ f 49 = encI j ∧ MkF d far left half hn v2 va f ∧ Hf nB gB (toL d far (at_.take j) half left) f S
theorem toL_length (d : Det) (far : List Int) (h : Nat) (left : Int) : ∀ at_ : List Int, (toL d far at_ h left).length ≤ 2 * at_.length
  | [] => by simp [toL]
  | x :: l => by
    have ih := toL_length d far h left l
    have h1 := List.length_filter_le (fun t => (t != -1) && (rd far t.toNat == left)) (((pgRow d x.toNat).drop (2 * h)).take 2)
    simp only [toL, List.flatMap_cons, List.length_append, List.length_cons] at ih ⊢
    simp at h1
    omega
theorem mk_at {P : Program} {d : Det} (R : RightD d) {sg : Nat} (hsg : d.signs = sg) {far : List Int} (hfl : far.length = 3 * d.next.length) {left : Int} {half hn : Nat} (hh : half < hn) (hhn : 2 * hn ≤ sg) {v2 va : AV} {nB : Nat} {gB : Nat → Option Blk} {at_ : List Int}
    (hat : ∀ x ∈ at_, 0 ≤ x ∧ x < 3 * d.next.length) (hal : at_.length ≤ 100000) (hva : AtV gB va at_) (hvi : ∀ i ∈ va.ids, i < nB) (g15 : gB 15 = some (.arr 2 [encGr (pg d)])) (h15 : 15 < nB) {f : AF} {S : St} {Q : Exit → AF → St → Prop}
    (h0 : mkA d far left half hn v2 va nB gB at_ at_.length f S) (hq : ∀ f' S', MkF d far left half hn v2 va f' → Hf nB gB (toL d far at_ half left) f' S' → Q .normal f' S') : AW P c_mk_at Q f S := by
  have hs2 := R.s2
  simp [AW_seq, AW_reg, AW_regD, AW_block, AW_cond, AW_skip, AW_exit, AW_ret, AW_scp, condR_true, condR_false, AThen_normal, AThen_ret, AThen_exit, ABlock_normal, ABlock_ret, ABlock_exit, AScope_normal, AScope_ret, AScope_exit, RetK_ret, RetK_normal, retAV_one, retAV_two, retAV_three, retAV_nil, RG_nil, RG_op, RG_guard, gdR_tt, gdR_ff, gdR_tf, gdR_ft, gdR_un, RG_call, callQ_clo, contK_ap, opR_some, RD_nil, RD_op0, RD_op1, opD0_some, opD1_some, RD_call, callQD_clo, RD_guard, gdD_tt, gdD_ff, gdD_tf, gdD_ft, gdD_un, psh_nil, psh_cons, Apt_nil, Apt_nilT, Apt_true, Apt_false, Dis_def, runT_val, runT_rd, runT_wr, runT_new, runT_mv, ex, put_some, put_none, ev_t, ev_c, argF_zero, argF_succ, set_g, set_n, cells_v, cells_sl, cells_agg, cells_own, cells_ptr, cells_clo, cells_eptr, cells_mp, putc, exBslice, lfill, exField, exIdxV, exIdxP, exBox, exAlloc, exLoad, exStore, exFieldA, exIdxA, exLen, exPick, exUn, exBeq, exMM, exSeq, seqGo, exExt, binV, intOp, subc, AV.solid, S0, encI, encB, c_mk_at]
  refine AW_loop (mkA d far left half hn v2 va nB gB at_) at_.length h0 ?_
  rintro m f S ⟨j, hj, rfl, e47, e48, e49, ff, hf⟩
  by_cases hlt : j < at_.length
  · have hjI : (j : Int) < at_.length := by omega
    have hga : at_[j]? = some at_[j] := List.getElem?_eq_getElem hlt
    obtain ⟨x0, x1⟩ := hat _ (List.getElem_mem hlt)
    have hgx : (pg d).next[(at_[j]).toNat]? = some (pgRow d (at_[j]).toNat) := pg_row (by omega)
    have hrl : (pgRow d (at_[j]).toNat).length = sg := by
      have e : (at_[j]).toNat = 3 * ((at_[j]).toNat / 3) + (at_[j]).toNat % 3 := by omega
      rw [e]; exact pgRow_length R hsg (by omega) (by omega)
    have hva' : AtV S.g va at_ := hva.frame (fun i hi => hf.go i (hvi i hi))
    have hg15 : S.g 15 = some (.arr 2 [.agg [.sl false ((pg d).next.map encIs), encBs (pg d).fin]]) := by rw [hf.go 15 h15]; exact g15
    have w1 : IntKind.i64.wrap (2 * (half : Int)) = 2 * (half : Int) := wrap_in _ (by omega)
    have w2 : IntKind.i64.wrap (2 * (half : Int) + 2) = 2 * (half : Int) + 2 := wrap_in _ (by omega)
    have w3 : IntKind.i64.wrap ((j : Int) + 1) = (j : Int) + 1 := wrap_in _ (by omega)
    have n1 : (2 * (half : Int)).toNat = 2 * half := by omega
    have n2 : (2 * (half : Int) + 2).toNat = 2 * half + 2 := by omega
    have n3 : (0 : Int) ≤ 2 * (half : Int) := by omega
    have n4 : (0 : Int) ≤ 2 * (half : Int) + 2 := by omega
    have n5 : 2 * half + 2 ≤ sg := by omega
    have hpl : (((pgRow d (at_[j]).toNat).drop (2 * half)).take 2).length = 2 := by simp; omega
    have hpe : List.drop (2 * half) (List.take (2 * half + 2) (List.map encI (pgRow d (at_[j]).toNat))) = (((pgRow d (at_[j]).toNat).drop (2 * half)).take 2).map encI := by
      rw [List.drop_take, ← List.map_drop, ← List.map_take]
      congr 2; omega
    have hpin : ∀ t ∈ ((pgRow d (at_[j]).toNat).drop (2 * half)).take 2, -1 ≤ t ∧ t < far.length := by
      intro t ht
      have hm := List.mem_of_mem_drop (List.mem_of_mem_take ht)
      have hl : (pg d).next.length = 3 * d.next.length := by simp [pg]
      rcases (pgOk R).at_ _ (List.mem_of_getElem? hgx) t hm with h1 | h1 <;> omega
    have hto : (toL d far (at_.take j) half left).length ≤ 1000000 := by
      have := toL_length d far half left (at_.take j)
      simp at this; omega
    have htk : toL d far (at_.take (j + 1)) half left = toL d far (at_.take j) half left ++ (((pgRow d (at_[j]).toNat).drop (2 * half)).take 2).filter (okT far left) := by
      rw [List.take_add_one, hga]
      simp only [Option.toList_some, toL, List.flatMap_append, List.flatMap_cons, List.flatMap_nil, List.append_nil]
      rfl
    have hfr : Hf nB gB (toL d far (at_.take j) half left ++ ((((pgRow d (at_[j]).toNat).drop (2 * half)).take 2).take 0).filter (okT far left)) f S := by simpa using hf
    have fin : ∀ (f' : AF) (S' : St), f' 47 = va → f' 48 = encI at_.length → f' 49 = encI j → MkF d far left half hn v2 va f' → Hf nB gB (toL d far (at_.take j) half left ++ (((pgRow d (at_[j]).toNat).drop (2 * half)).take 2).filter (okT far left)) f' S' →
        ABlock 5 (AThen (AW P (.reg none [⟨(some 84), .bin .add (.t 49) (.c (.v (.int .i64 1))), none, none⟩, ⟨(some 49), .mv (.t 84), none, none⟩]) (AThen (INext (mkA d far left half hn v2 va nB gB at_) (at_.length - j)) (ABlock 4 Q))) (AThen (INext (mkA d far left half hn v2 va nB gB at_) (at_.length - j)) (ABlock 4 Q))) .normal f' S' := by
      intro f' S' k47 k48 k49 kf kh
      simp [AW_seq, AW_reg, AW_regD, AW_block, AW_cond, AW_skip, AW_exit, AW_ret, AW_scp, condR_true, condR_false, AThen_normal, AThen_ret, AThen_exit, ABlock_normal, ABlock_ret, ABlock_exit, AScope_normal, AScope_ret, AScope_exit, RetK_ret, RetK_normal, retAV_one, retAV_two, retAV_three, retAV_nil, RG_nil, RG_op, RG_guard, gdR_tt, gdR_ff, gdR_tf, gdR_ft, gdR_un, RG_call, callQ_clo, contK_ap, opR_some, RD_nil, RD_op0, RD_op1, opD0_some, opD1_some, RD_call, callQD_clo, RD_guard, gdD_tt, gdD_ff, gdD_tf, gdD_ft, gdD_un, psh_nil, psh_cons, Apt_nil, Apt_nilT, Apt_true, Apt_false, Dis_def, runT_val, runT_rd, runT_wr, runT_new, runT_mv, ex, put_some, put_none, ev_t, ev_c, argF_zero, argF_succ, set_g, set_n, cells_v, cells_sl, cells_agg, cells_own, cells_ptr, cells_clo, cells_eptr, cells_mp, putc, exBslice, lfill, exField, exIdxV, exIdxP, exBox, exAlloc, exLoad, exStore, exFieldA, exIdxA, exLen, exPick, exUn, exBeq, exMM, exSeq, seqGo, exExt, binV, intOp, subc, AV.solid, S0, encI, encB, k49, w3]
      obtain ⟨go, n, v, ids⟩ := kh
      refine ⟨at_.length - (j + 1), by omega, j + 1, by omega, rfl, ?_, ?_, ?_, ⟨?_, ?_, ?_, ?_, ?_, ?_, ?_, ?_, ?_⟩, ⟨go, by simp <;> omega, ?_, fun i hi => ?_⟩⟩
      · simp [put_some, k47]
      · simp [put_some, k48]
      · simp [put_some, encI]
      · simp [put_some, kf.e1]
      · simp [put_some, kf.e2]
      · simp [put_some, kf.e5]
      · simp [put_some, kf.e6]
      · simp [put_some, kf.e7]
      · simp [put_some, kf.e8]
      · simp [put_some, kf.e9]
      · simp [put_some, kf.e43]
      · simp [put_some, kf.e44]
      · rw [htk]; simpa [put_some] using v
      · have := ids i (by simpa [put_some] using hi)
        simp; omega
    rcases hva' with hva' | ⟨id, off, ys, hva', hgi, hoy, hdy⟩
    · rw [hva'] at e47
      simp [AW_seq, AW_reg, AW_regD, AW_block, AW_cond, AW_skip, AW_exit, AW_ret, AW_scp, condR_true, condR_false, AThen_normal, AThen_ret, AThen_exit, ABlock_normal, ABlock_ret, ABlock_exit, AScope_normal, AScope_ret, AScope_exit, RetK_ret, RetK_normal, retAV_one, retAV_two, retAV_three, retAV_nil, RG_nil, RG_op, RG_guard, gdR_tt, gdR_ff, gdR_tf, gdR_ft, gdR_un, RG_call, callQ_clo, contK_ap, opR_some, RD_nil, RD_op0, RD_op1, opD0_some, opD1_some, RD_call, callQD_clo, RD_guard, gdD_tt, gdD_ff, gdD_tf, gdD_ft, gdD_un, psh_nil, psh_cons, Apt_nil, Apt_nilT, Apt_true, Apt_false, Dis_def, runT_val, runT_rd, runT_wr, runT_new, runT_mv, ex, put_some, put_none, ev_t, ev_c, argF_zero, argF_succ, set_g, set_n, cells_v, cells_sl, cells_agg, cells_own, cells_ptr, cells_clo, cells_eptr, cells_mp, putc, exBslice, lfill, exField, exIdxV, exIdxP, exBox, exAlloc, exLoad, exStore, exFieldA, exIdxA, exLen, exPick, exUn, exBeq, exMM, exSeq, seqGo, exExt, binV, intOp, subc, AV.solid, S0, encI, encB, e47, e48, e49, ff.e5, ff.e9, hjI, hga, hg15, x0, x1, hgx, encIs, w1, w2, n1, n2, n3, n4, n5, hrl, exSlc, bnd]
      refine mk_pair (to0 := toL d far (at_.take j) half left) (pair := ((pgRow d (at_[j]).toNat).drop (2 * half)).take 2) (va47 := va) (l48 := at_.length) (j := j) (Nat.le_of_eq hpl) hpin hto ⟨0, false, by omega, by omega, ?_, ?_, ?_, ?_, ?_, ?_, ⟨?_, ?_, ?_, ?_, ?_, ?_, ?_, ?_, ?_⟩, ?_⟩ fin
      · simp [put_some, encI]
      · simp [put_some, hpl, encI]
      · simp [put_some, hpe]
      · simp [put_some, e47, hva']
      · simp [put_some, e48, encI]
      · simp [put_some, e49, encI]
      · simp [put_some, ff.e1]
      · simp [put_some, ff.e2]
      · simp [put_some, ff.e5]
      · simp [put_some, ff.e6]
      · simp [put_some, ff.e7]
      · simp [put_some, ff.e8]
      · simp [put_some, ff.e9]
      · simp [put_some, ff.e43]
      · simp [put_some, ff.e44]
      · obtain ⟨go, n, v, ids⟩ := hfr
        refine ⟨go, by simp <;> omega, by simpa [put_some] using v, fun i hi => ?_⟩
        have := ids i (by simpa [put_some] using hi)
        simp; omega
    · rw [hva'] at e47
      have hoy' : off + at_.length ≤ ys.length := by omega
      have hgy : ys[off + j]? = some (.v (.int .i64 at_[j])) := by
        have : (ys.drop off)[j]? = some (encI at_[j]) := by rw [hdy]; simp [hga]
        rwa [List.getElem?_drop] at this
      simp [AW_seq, AW_reg, AW_regD, AW_block, AW_cond, AW_skip, AW_exit, AW_ret, AW_scp, condR_true, condR_false, AThen_normal, AThen_ret, AThen_exit, ABlock_normal, ABlock_ret, ABlock_exit, AScope_normal, AScope_ret, AScope_exit, RetK_ret, RetK_normal, retAV_one, retAV_two, retAV_three, retAV_nil, RG_nil, RG_op, RG_guard, gdR_tt, gdR_ff, gdR_tf, gdR_ft, gdR_un, RG_call, callQ_clo, contK_ap, opR_some, RD_nil, RD_op0, RD_op1, opD0_some, opD1_some, RD_call, callQD_clo, RD_guard, gdD_tt, gdD_ff, gdD_tf, gdD_ft, gdD_un, psh_nil, psh_cons, Apt_nil, Apt_nilT, Apt_true, Apt_false, Dis_def, runT_val, runT_rd, runT_wr, runT_new, runT_mv, ex, put_some, put_none, ev_t, ev_c, argF_zero, argF_succ, set_g, set_n, cells_v, cells_sl, cells_agg, cells_own, cells_ptr, cells_clo, cells_eptr, cells_mp, putc, exBslice, lfill, exField, exIdxV, exIdxP, exBox, exAlloc, exLoad, exStore, exFieldA, exIdxA, exLen, exPick, exUn, exBeq, exMM, exSeq, seqGo, exExt, binV, intOp, subc, AV.solid, S0, encI, encB, e47, e48, e49, ff.e5, ff.e9, hjI, hga, hgi, hgy, hoy', hg15, x0, x1, hgx, encIs, w1, w2, n1, n2, n3, n4, n5, hrl, exSlc, bnd]
      refine mk_pair (to0 := toL d far (at_.take j) half left) (pair := ((pgRow d (at_[j]).toNat).drop (2 * half)).take 2) (va47 := va) (l48 := at_.length) (j := j) (Nat.le_of_eq hpl) hpin hto ⟨0, false, by omega, by omega, ?_, ?_, ?_, ?_, ?_, ?_, ⟨?_, ?_, ?_, ?_, ?_, ?_, ?_, ?_, ?_⟩, ?_⟩ fin
      · simp [put_some, encI]
      · simp [put_some, hpl, encI]
      · simp [put_some, hpe]
      · simp [put_some, e47, hva']
      · simp [put_some, e48, encI]
      · simp [put_some, e49, encI]
      · simp [put_some, ff.e1]
      · simp [put_some, ff.e2]
      · simp [put_some, ff.e5]
      · simp [put_some, ff.e6]
      · simp [put_some, ff.e7]
      · simp [put_some, ff.e8]
      · simp [put_some, ff.e9]
      · simp [put_some, ff.e43]
      · simp [put_some, ff.e44]
      · obtain ⟨go, n, v, ids⟩ := hfr
        refine ⟨go, by simp <;> omega, by simpa [put_some] using v, fun i hi => ?_⟩
        have := ids i (by simpa [put_some] using hi)
        simp; omega
  · have : j = at_.length := by omega
    subst this
    rw [List.take_length] at hf
    simp [AW_seq, AW_reg, AW_regD, AW_block, AW_cond, AW_skip, AW_exit, AW_ret, AW_scp, condR_true, condR_false, AThen_normal, AThen_ret, AThen_exit, ABlock_normal, ABlock_ret, ABlock_exit, AScope_normal, AScope_ret, AScope_exit, RetK_ret, RetK_normal, retAV_one, retAV_two, retAV_three, retAV_nil, RG_nil, RG_op, RG_guard, gdR_tt, gdR_ff, gdR_tf, gdR_ft, gdR_un, RG_call, callQ_clo, contK_ap, opR_some, RD_nil, RD_op0, RD_op1, opD0_some, opD1_some, RD_call, callQD_clo, RD_guard, gdD_tt, gdD_ff, gdD_tf, gdD_ft, gdD_un, psh_nil, psh_cons, Apt_nil, Apt_nilT, Apt_true, Apt_false, Dis_def, runT_val, runT_rd, runT_wr, runT_new, runT_mv, ex, put_some, put_none, ev_t, ev_c, argF_zero, argF_succ, set_g, set_n, cells_v, cells_sl, cells_agg, cells_own, cells_ptr, cells_clo, cells_eptr, cells_mp, putc, exBslice, lfill, exField, exIdxV, exIdxP, exBox, exAlloc, exLoad, exStore, exFieldA, exIdxA, exLen, exPick, exUn, exBeq, exMM, exSeq, seqGo, exExt, binV, intOp, subc, AV.solid, S0, encI, encB, e48, e49]
    obtain ⟨go, n, v, ids⟩ := hf
    refine hq _ _ ⟨by simp [put_some, ff.e1], by simp [put_some, ff.e2], by simp [put_some, ff.e5], by simp [put_some, ff.e6], by simp [put_some, ff.e7], by simp [put_some, ff.e8], by simp [put_some, ff.e9], by simp [put_some, ff.e43], by simp [put_some, ff.e44]⟩
      ⟨go, by simp <;> omega, by simpa [put_some] using v, fun i hi => by
        have := ids i (by simpa [put_some] using hi)
        simp; omega⟩
def HSort (P : Program) (f : FuncId) : Prop := ∀ (S : St) (id off : Nat) (ys : List AV) (l : List Int) (K : AV → St → Prop), S.g id = some (.arr 1 ys) → ys.drop off = l.map encI → l ≠ [] → l.length ≤ 1000000 →
  K (.tup []) (S.set id (some (.arr 1 (ys.take off ++ (l.mergeSort fun x y => decide (x ≤ y)).map encI)))) → CallR P f [.own id off l.length] S K
def HComp (P : Program) (f : FuncId) : Prop := ∀ (S : St) (id off : Nat) (ys : List AV) (l : List Int) (K : AV → St → Prop), S.g id = some (.arr 1 ys) → ys.drop off = l.map encI → l ≠ [] → l.length ≤ 1000000 →
  K (.own id off (Lib.compact l).length) (S.set id (some (.arr 1 (ys.take off ++ (Lib.compact l).map encI)))) → CallR P f [.own id off l.length] S K
structure Snap (d : Det) (v2 va : AV) (sgs at_ : List Int) (N : Nat) (g : Nat → Option Blk) : Prop where
  g0 : g 0 = some (.arr 3 [encDet d])
  g15 : g 15 = some (.arr 2 [encGr (pg d)])
  n : 16 ≤ N
  v : Vec g v2 1 (sgs.map encI)
  vi : ∀ i ∈ v2.ids, i < N ∧ i ≠ 0 ∧ i ≠ 15
  a : AtV g va at_
  ai : ∀ i ∈ va.ids, i < N ∧ i ≠ 0 ∧ i ≠ 15
  dis : ∀ i ∈ v2.ids, i ∉ va.ids
theorem Snap.frame {d : Det} {v2 va : AV} {sgs at_ : List Int} {n n' : Nat} {g g' : Nat → Option Blk} (h : Snap d v2 va sgs at_ n g) (hn : n ≤ n') (hg : ∀ k, k < n → g' k = g k) : Snap d v2 va sgs at_ n' g' := by
  have := h.n
  exact ⟨by rw [hg 0 (by omega)]; exact h.g0, by rw [hg 15 (by omega)]; exact h.g15, by omega, h.v.frame (fun i hi => hg i (h.vi i hi).1), fun i hi => ⟨by have := (h.vi i hi).1; omega, (h.vi i hi).2⟩, h.a.frame (fun i hi => hg i (h.ai i hi).1), fun i hi => ⟨by have := (h.ai i hi).1; omega, (h.ai i hi).2⟩, h.dis⟩
structure MkG (d : Det) (far : List Int) (left : Int) (v2 va : AV) (f : AF) : Prop where
  e1 : f 1 = .ptr 0 0 0
  e2 : f 2 = v2
  e5 : f 5 = .ptr 15 0 0
  e6 : f 6 = encIs far
  e7 : f 7 = va
  e8 : f 8 = encI left
def mkH (d : Det) (far : List Int) (k hn : Nat) (v2 va : AV) (sgs at_ : List Int) (m : Nat) (f : AF) (S : St) : Prop :=
  ∃ h, h ≤ hn ∧ m = hn - h ∧ f 43 = encI hn ∧ f 44 = encI h ∧ MkG d far k v2 va f ∧ Snap d v2 va sgs at_ S.n S.g ∧ ∀ h', h' < h → toL d far at_ h' k = []
theorem mk_tail {P : Program} {fs fc : FuncId} (Hs : HSort P fs) (Hc : HComp P fc) {d : Det} {far : List Int} {k h hn nB : Nat} {gB : Nat → Option Blk} {v2 va : AV} {sgs at_ to : List Int}
    (hsl : sgs.length ≤ 100000) (htl : to.length ≤ 1000000) {f : AF} {S : St} {Q : Exit → AF → St → Prop} (ff : MkF d far k h hn v2 va f) (sn : Snap d v2 va sgs at_ nB gB) (hf : Hf nB gB to f S)
    (hq0 : to = [] → ∀ f' S', f' 43 = encI hn → f' 44 = encI h → MkG d far k v2 va f' → Snap d v2 va sgs at_ S'.n S'.g → Q .normal f' S')
    (hq1 : to ≠ [] → ∀ f' S' v2' va', MkG d far k v2' va' f' → Snap d v2' va' (sgs ++ [(h : Int)]) (Lib.compact (to.mergeSort fun x y => decide (x ≤ y))) S'.n S'.g → Q (.exit 1) f' S') : AW P (c_mk_tail fs fc) Q f S := by
  obtain ⟨go, hn1, v, ids⟩ := hf
  have hsn := sn.n
  have snS : Snap d v2 va sgs at_ S.n S.g := sn.frame hn1 go
  rcases v with ⟨e10, hnil⟩ | ⟨id, off, ys, e10, hg, ho, hd⟩
  · have hnil' : to = [] := by simpa using hnil
    simp [AW_seq, AW_reg, AW_regD, AW_block, AW_cond, AW_skip, AW_exit, AW_ret, AW_scp, condR_true, condR_false, AThen_normal, AThen_ret, AThen_exit, ABlock_normal, ABlock_ret, ABlock_exit, AScope_normal, AScope_ret, AScope_exit, RetK_ret, RetK_normal, retAV_one, retAV_two, retAV_three, retAV_nil, RG_nil, RG_op, RG_guard, gdR_tt, gdR_ff, gdR_tf, gdR_ft, gdR_un, RG_call, callQ_clo, contK_ap, opR_some, RD_nil, RD_op0, RD_op1, opD0_some, opD1_some, RD_call, callQD_clo, RD_guard, gdD_tt, gdD_ff, gdD_tf, gdD_ft, gdD_un, psh_nil, psh_cons, Apt_nil, Apt_nilT, Apt_true, Apt_false, Dis_def, runT_val, runT_rd, runT_wr, runT_new, runT_mv, ex, put_some, put_none, ev_t, ev_c, argF_zero, argF_succ, set_g, set_n, cells_v, cells_sl, cells_agg, cells_own, cells_ptr, cells_clo, cells_eptr, cells_mp, putc, exBslice, lfill, exField, exIdxV, exIdxP, exBox, exAlloc, exLoad, exStore, exFieldA, exIdxA, exLen, exPick, exUn, exBeq, exMM, exSeq, seqGo, exExt, binV, intOp, subc, AV.solid, S0, encI, encB, c_mk_tail, e10]
    refine hq0 hnil' _ _ (by simp [put_some, ff.e43]) (by simp [put_some, ff.e44]) ⟨by simp [put_some, ff.e1], by simp [put_some, ff.e2], by simp [put_some, ff.e5], by simp [put_some, ff.e6], by simp [put_some, ff.e7], by simp [put_some, ff.e8]⟩ (snS.frame (by simp) (fun _ _ => rfl))
  · rw [List.length_map] at e10
    by_cases hnil' : to = []
    · have hl0 : to.length = 0 := by rw [hnil']; rfl
      simp [AW_seq, AW_reg, AW_regD, AW_block, AW_cond, AW_skip, AW_exit, AW_ret, AW_scp, condR_true, condR_false, AThen_normal, AThen_ret, AThen_exit, ABlock_normal, ABlock_ret, ABlock_exit, AScope_normal, AScope_ret, AScope_exit, RetK_ret, RetK_normal, retAV_one, retAV_two, retAV_three, retAV_nil, RG_nil, RG_op, RG_guard, gdR_tt, gdR_ff, gdR_tf, gdR_ft, gdR_un, RG_call, callQ_clo, contK_ap, opR_some, RD_nil, RD_op0, RD_op1, opD0_some, opD1_some, RD_call, callQD_clo, RD_guard, gdD_tt, gdD_ff, gdD_tf, gdD_ft, gdD_un, psh_nil, psh_cons, Apt_nil, Apt_nilT, Apt_true, Apt_false, Dis_def, runT_val, runT_rd, runT_wr, runT_new, runT_mv, ex, put_some, put_none, ev_t, ev_c, argF_zero, argF_succ, set_g, set_n, cells_v, cells_sl, cells_agg, cells_own, cells_ptr, cells_clo, cells_eptr, cells_mp, putc, exBslice, lfill, exField, exIdxV, exIdxP, exBox, exAlloc, exLoad, exStore, exFieldA, exIdxA, exLen, exPick, exUn, exBeq, exMM, exSeq, seqGo, exExt, binV, intOp, subc, AV.solid, S0, encI, encB, c_mk_tail, e10, hl0]
      refine hq0 hnil' _ _ (by simp [put_some, ff.e43]) (by simp [put_some, ff.e44]) ⟨by simp [put_some, ff.e1], by simp [put_some, ff.e2], by simp [put_some, ff.e5], by simp [put_some, ff.e6], by simp [put_some, ff.e7], by simp [put_some, ff.e8]⟩ (snS.frame (by simp) (fun _ _ => rfl))
    · have hlp : (0 : Int) < to.length := by have := List.length_pos_iff.mpr hnil'; omega
      have hsl1 : (to.mergeSort fun x y => decide (x ≤ y)).length = to.length := List.length_mergeSort _
      have hidn := ids id (by rw [e10]; simp [AV.ids])
      have hdl : decide (0 < to.length) = true := decide_eq_true (List.length_pos_iff.mpr hnil')
      simp [AW_seq, AW_reg, AW_regD, AW_block, AW_cond, AW_skip, AW_exit, AW_ret, AW_scp, condR_true, condR_false, AThen_normal, AThen_ret, AThen_exit, ABlock_normal, ABlock_ret, ABlock_exit, AScope_normal, AScope_ret, AScope_exit, RetK_ret, RetK_normal, retAV_one, retAV_two, retAV_three, retAV_nil, RG_nil, RG_op, RG_guard, gdR_tt, gdR_ff, gdR_tf, gdR_ft, gdR_un, RG_call, callQ_clo, contK_ap, opR_some, RD_nil, RD_op0, RD_op1, opD0_some, opD1_some, RD_call, callQD_clo, RD_guard, gdD_tt, gdD_ff, gdD_tf, gdD_ft, gdD_un, psh_nil, psh_cons, Apt_nil, Apt_nilT, Apt_true, Apt_false, Dis_def, runT_val, runT_rd, runT_wr, runT_new, runT_mv, ex, put_some, put_none, ev_t, ev_c, argF_zero, argF_succ, set_g, set_n, cells_v, cells_sl, cells_agg, cells_own, cells_ptr, cells_clo, cells_eptr, cells_mp, putc, exBslice, lfill, exField, exIdxV, exIdxP, exBox, exAlloc, exLoad, exStore, exFieldA, exIdxA, exLen, exPick, exUn, exBeq, exMM, exSeq, seqGo, exExt, binV, intOp, subc, AV.solid, S0, encI, encB, c_mk_tail, e10, hlp, hdl]
      refine Hs _ id off ys to _ hg hd hnil' htl ?_
      simp [AW_seq, AW_reg, AW_regD, AW_block, AW_cond, AW_skip, AW_exit, AW_ret, AW_scp, condR_true, condR_false, AThen_normal, AThen_ret, AThen_exit, ABlock_normal, ABlock_ret, ABlock_exit, AScope_normal, AScope_ret, AScope_exit, RetK_ret, RetK_normal, retAV_one, retAV_two, retAV_three, retAV_nil, RG_nil, RG_op, RG_guard, gdR_tt, gdR_ff, gdR_tf, gdR_ft, gdR_un, RG_call, callQ_clo, contK_ap, opR_some, RD_nil, RD_op0, RD_op1, opD0_some, opD1_some, RD_call, callQD_clo, RD_guard, gdD_tt, gdD_ff, gdD_tf, gdD_ft, gdD_un, psh_nil, psh_cons, Apt_nil, Apt_nilT, Apt_true, Apt_false, Dis_def, runT_val, runT_rd, runT_wr, runT_new, runT_mv, ex, put_some, put_none, ev_t, ev_c, argF_zero, argF_succ, set_g, set_n, cells_v, cells_sl, cells_agg, cells_own, cells_ptr, cells_clo, cells_eptr, cells_mp, putc, exBslice, lfill, exField, exIdxV, exIdxP, exBox, exAlloc, exLoad, exStore, exFieldA, exIdxA, exLen, exPick, exUn, exBeq, exMM, exSeq, seqGo, exExt, binV, intOp, subc, AV.solid, S0, encI, encB, e10]
      have hd2 : (ys.take off ++ (to.mergeSort fun x y => decide (x ≤ y)).map encI).drop off = (to.mergeSort fun x y => decide (x ≤ y)).map encI := by
        rw [List.drop_append_of_le_length (by simp; omega)]
        simp [List.drop_eq_nil_of_le]
      have hsn2 : (to.mergeSort fun x y => decide (x ≤ y)) ≠ [] := by
        intro e; rw [e] at hsl1; exact hnil' (List.eq_nil_of_length_eq_zero hsl1.symm)
      have hcall := fun S K => Hc S id off (ys.take off ++ (to.mergeSort fun x y => decide (x ≤ y)).map encI) (to.mergeSort fun x y => decide (x ≤ y)) K
      simp only [hsl1] at hcall
      refine hcall _ _ ?_ hd2 hsn2 htl ?_
      · simp [set_g]
      have hv2i : id ∉ v2.ids := fun h6 => by have := (sn.vi id h6).1; omega
      have hvv : Vec S.g v2 1 (sgs.map encI) := snS.v
      have htk : List.take off (List.take off ys ++ List.map encI (to.mergeSort fun x y => decide (x ≤ y))) = List.take off ys := by
        have hl : off ≤ (ys.take off).length := by rw [List.length_take]; omega
        rw [List.take_append_of_le_length hl, List.take_take, Nat.min_self]
      simp [AW_seq, AW_reg, AW_regD, AW_block, AW_cond, AW_skip, AW_exit, AW_ret, AW_scp, condR_true, condR_false, AThen_normal, AThen_ret, AThen_exit, ABlock_normal, ABlock_ret, ABlock_exit, AScope_normal, AScope_ret, AScope_exit, RetK_ret, RetK_normal, retAV_one, retAV_two, retAV_three, retAV_nil, RG_nil, RG_op, RG_guard, gdR_tt, gdR_ff, gdR_tf, gdR_ft, gdR_un, RG_call, callQ_clo, contK_ap, opR_some, RD_nil, RD_op0, RD_op1, opD0_some, opD1_some, RD_call, callQD_clo, RD_guard, gdD_tt, gdD_ff, gdD_tf, gdD_ft, gdD_un, psh_nil, psh_cons, Apt_nil, Apt_nilT, Apt_true, Apt_false, Dis_def, runT_val, runT_rd, runT_wr, runT_new, runT_mv, ex, put_some, put_none, ev_t, ev_c, argF_zero, argF_succ, set_g, set_n, cells_v, cells_sl, cells_agg, cells_own, cells_ptr, cells_clo, cells_eptr, cells_mp, putc, exBslice, lfill, exField, exIdxV, exIdxP, exBox, exAlloc, exLoad, exStore, exFieldA, exIdxA, exLen, exPick, exUn, exBeq, exMM, exSeq, seqGo, exExt, binV, intOp, subc, AV.solid, S0, encI, encB, ff.e2, ff.e9]
      rw [Vec.app (xs := sgs.map encI) (hvv.frame (fun j hj => ?_)) (cells_I _) (by simp [AV.cells]) (appOk8 (by rw [List.length_map]; omega))]
      · simp [AW_seq, AW_reg, AW_regD, AW_block, AW_cond, AW_skip, AW_exit, AW_ret, AW_scp, condR_true, condR_false, AThen_normal, AThen_ret, AThen_exit, ABlock_normal, ABlock_ret, ABlock_exit, AScope_normal, AScope_ret, AScope_exit, RetK_ret, RetK_normal, retAV_one, retAV_two, retAV_three, retAV_nil, RG_nil, RG_op, RG_guard, gdR_tt, gdR_ff, gdR_tf, gdR_ft, gdR_un, RG_call, callQ_clo, contK_ap, opR_some, RD_nil, RD_op0, RD_op1, opD0_some, opD1_some, RD_call, callQD_clo, RD_guard, gdD_tt, gdD_ff, gdD_tf, gdD_ft, gdD_un, psh_nil, psh_cons, Apt_nil, Apt_nilT, Apt_true, Apt_false, Dis_def, runT_val, runT_rd, runT_wr, runT_new, runT_mv, ex, put_some, put_none, ev_t, ev_c, argF_zero, argF_succ, set_g, set_n, cells_v, cells_sl, cells_agg, cells_own, cells_ptr, cells_clo, cells_eptr, cells_mp, putc, exBslice, lfill, exField, exIdxV, exIdxP, exBox, exAlloc, exLoad, exStore, exFieldA, exIdxA, exLen, exPick, exUn, exBeq, exMM, exSeq, seqGo, exExt, binV, intOp, subc, AV.solid, S0, encI, encB]
        have hgo : ∀ (n1 n2 n3 : Nat) (b1 b2 b3 : Option Blk) (j : Nat), j < nB → j ∉ v2.ids → ((St.without ⟨n1, (St.set ⟨n2, (St.set ⟨n3, S.g⟩ id b1).g⟩ id b2).g⟩ v2).set (S.n + 3 + 2 + 3 + 3) b3).g j = gB j := by
          intro n1 n2 n3 b1 b2 b3 j hj hj2
          rw [set_g, if_neg (by omega), without_g j hj2]
          simp only [set_g]
          rw [if_neg (by omega), if_neg (by omega)]
          exact go j hj
        refine hq1 hnil' _ _ (.own (S.n + 3 + 2 + 3 + 3) 0 (sgs.length + 1)) (.own id off (Lib.compact (to.mergeSort fun x y => decide (x ≤ y))).length) ⟨?_, ?_, ?_, ?_, ?_, ?_⟩ ⟨?_, ?_, ?_, ?_, ?_, ?_, ?_, ?_⟩
        · simp [put_some, ff.e1]
        · simp [put_some]
        · simp [put_some, ff.e5]
        · simp [put_some, ff.e6]
        · simp [put_some]
        · simp [put_some, ff.e8]
        · rw [hgo _ _ _ _ _ _ 0 (by omega) (fun h6 => (sn.vi 0 h6).2.1 rfl)]; exact sn.g0
        · rw [hgo _ _ _ _ _ _ 15 (by omega) (fun h6 => (sn.vi 15 h6).2.2 rfl)]; exact sn.g15
        · simp [set_n, without_n]; omega
        · exact .mk' (by simp [set_g, encI]) (by simp)
        · intro i hi
          simp only [AV.ids, List.mem_singleton] at hi
          subst hi
          simp [set_n, without_n]; omega
        · have hl : off ≤ (ys.take off).length := by rw [List.length_take]; omega
          refine .inr ⟨id, off, ys.take off ++ (Lib.compact (to.mergeSort fun x y => decide (x ≤ y))).map encI, rfl, ?_, ?_, ?_⟩
          · rw [set_g, if_neg (by omega), without_g id hv2i, set_g, if_pos rfl, htk]
          · rw [List.length_append, List.length_map, List.length_take]; omega
          · rw [List.drop_append_of_le_length hl]; simp [List.drop_eq_nil_of_le]
        · intro i hi
          simp only [AV.ids, List.mem_singleton] at hi
          subst hi
          simp [set_n, without_n]; omega
        · intro i hi h6
          simp only [AV.ids, List.mem_singleton] at hi h6
          omega
      · simp only [set_g]
        have hj2 : j ≠ id := fun e => hv2i (e ▸ hj)
        rw [if_neg hj2, if_neg hj2]
theorem mk_half {P : Program} {fs fc : FuncId} (Hs : HSort P fs) (Hc : HComp P fc) {d : Det} (R : RightD d) (hev : d.signs % 2 = 0) {sg hn : Nat} (hsg : d.signs = sg) (hhn : 2 * hn = sg) {far : List Int} (fo : FarOk (pg d) far) {k : Nat} {v2 va : AV} {sgs at_ : List Int}
    (hat : AtOk d far at_ (k + 1)) (hal : at_.length ≤ 100000) (hsl : sgs.length ≤ 100000) {f : AF} {S : St} {Q : Exit → AF → St → Prop} (h0 : mkH d far k hn v2 va sgs at_ hn f S)
    (hq : ∀ f' S' v2' va', MkG d far k v2' va' f' → Snap d v2' va' (sgs ++ [(halfOf d far at_ k : Int)]) (nextAt d far at_ (halfOf d far at_ k) k) S'.n S'.g → Q (.exit 1) f' S') : AW P (c_mk_half fs fc) Q f S := by
  have hs2 := R.s2
  have hfl : far.length = 3 * d.next.length := by rw [fo.len, pg_n]
  obtain ⟨b1, b2, b3⟩ := half_ex R hev fo hat
  have b1' : halfOf d far at_ k < hn := by omega
  simp [AW_seq, AW_reg, AW_regD, AW_block, AW_cond, AW_skip, AW_exit, AW_ret, AW_scp, condR_true, condR_false, AThen_normal, AThen_ret, AThen_exit, ABlock_normal, ABlock_ret, ABlock_exit, AScope_normal, AScope_ret, AScope_exit, RetK_ret, RetK_normal, retAV_one, retAV_two, retAV_three, retAV_nil, RG_nil, RG_op, RG_guard, gdR_tt, gdR_ff, gdR_tf, gdR_ft, gdR_un, RG_call, callQ_clo, contK_ap, opR_some, RD_nil, RD_op0, RD_op1, opD0_some, opD1_some, RD_call, callQD_clo, RD_guard, gdD_tt, gdD_ff, gdD_tf, gdD_ft, gdD_un, psh_nil, psh_cons, Apt_nil, Apt_nilT, Apt_true, Apt_false, Dis_def, runT_val, runT_rd, runT_wr, runT_new, runT_mv, ex, put_some, put_none, ev_t, ev_c, argF_zero, argF_succ, set_g, set_n, cells_v, cells_sl, cells_agg, cells_own, cells_ptr, cells_clo, cells_eptr, cells_mp, putc, exBslice, lfill, exField, exIdxV, exIdxP, exBox, exAlloc, exLoad, exStore, exFieldA, exIdxA, exLen, exPick, exUn, exBeq, exMM, exSeq, seqGo, exExt, binV, intOp, subc, AV.solid, S0, encI, encB, c_mk_half]
  refine AW_loop (mkH d far k hn v2 va sgs at_) hn h0 ?_
  rintro m f S ⟨h, hh, rfl, e43, e44, gg, sn, hno⟩
  have hlt : h < hn := by
    by_cases hc : h < hn
    · exact hc
    · exact (b2 (hno _ (by omega))).elim
  have hhI : (h : Int) < hn := by omega
  have w3 : IntKind.i64.wrap ((h : Int) + 1) = (h : Int) + 1 := wrap_in _ (by omega)
  have hlen : exLen va = some (.v (.int .i64 at_.length)) := by
    rcases sn.a with e | ⟨id, off, ys, e, _⟩ <;> rw [e] <;> simp [exLen]
  have htl : (toL d far at_ h k).length ≤ 1000000 := by have := toL_length d far h k at_; omega
  have fin : ∀ (f' : AF) (S' : St), MkF d far k h hn v2 va f' → Hf (S.n + 1 + 2 + 1 + 3) S.g (toL d far at_ h k) f' S' → AThen (AW P (c_mk_tail fs fc) (ABlock 3 (AThen (AW P (.reg none [⟨(some 96), .bin .add (.t 44) (.c (.v (.int .i64 1))), none, none⟩, ⟨(some 44), .mv (.t 96), none, none⟩]) (AThen (INext (mkH d far k hn v2 va sgs at_) (hn - h)) (ABlock 2 Q))) (AThen (INext (mkH d far k hn v2 va sgs at_) (hn - h)) (ABlock 2 Q)))))
      (ABlock 3 (AThen (AW P (.reg none [⟨(some 96), .bin .add (.t 44) (.c (.v (.int .i64 1))), none, none⟩, ⟨(some 44), .mv (.t 96), none, none⟩]) (AThen (INext (mkH d far k hn v2 va sgs at_) (hn - h)) (ABlock 2 Q))) (AThen (INext (mkH d far k hn v2 va sgs at_) (hn - h)) (ABlock 2 Q)))) .normal f' S' := by
    intro f' S' kf kh
    simp only [AThen_normal]
    refine mk_tail Hs Hc hsl htl kf (sn.frame (by omega) (fun _ _ => rfl)) kh (fun hnil f2 S2 k43 k44 kg ks => ?_) (fun hne f2 S2 v2' va' kg ks => ?_)
    · simp [AW_seq, AW_reg, AW_regD, AW_block, AW_cond, AW_skip, AW_exit, AW_ret, AW_scp, condR_true, condR_false, AThen_normal, AThen_ret, AThen_exit, ABlock_normal, ABlock_ret, ABlock_exit, AScope_normal, AScope_ret, AScope_exit, RetK_ret, RetK_normal, retAV_one, retAV_two, retAV_three, retAV_nil, RG_nil, RG_op, RG_guard, gdR_tt, gdR_ff, gdR_tf, gdR_ft, gdR_un, RG_call, callQ_clo, contK_ap, opR_some, RD_nil, RD_op0, RD_op1, opD0_some, opD1_some, RD_call, callQD_clo, RD_guard, gdD_tt, gdD_ff, gdD_tf, gdD_ft, gdD_un, psh_nil, psh_cons, Apt_nil, Apt_nilT, Apt_true, Apt_false, Dis_def, runT_val, runT_rd, runT_wr, runT_new, runT_mv, ex, put_some, put_none, ev_t, ev_c, argF_zero, argF_succ, set_g, set_n, cells_v, cells_sl, cells_agg, cells_own, cells_ptr, cells_clo, cells_eptr, cells_mp, putc, exBslice, lfill, exField, exIdxV, exIdxP, exBox, exAlloc, exLoad, exStore, exFieldA, exIdxA, exLen, exPick, exUn, exBeq, exMM, exSeq, seqGo, exExt, binV, intOp, subc, AV.solid, S0, encI, encB, k44, w3]
      refine ⟨hn - (h + 1), by omega, h + 1, by omega, rfl, ?_, ?_, ⟨?_, ?_, ?_, ?_, ?_, ?_⟩, ks.frame (by simp) (fun _ _ => rfl), fun h' hh' => ?_⟩
      · simp [put_some, k43]
      · simp [put_some, encI]
      · simp [put_some, kg.e1]
      · simp [put_some, kg.e2]
      · simp [put_some, kg.e5]
      · simp [put_some, kg.e6]
      · simp [put_some, kg.e7]
      · simp [put_some, kg.e8]
      · by_cases e : h' = h
        · subst e; exact hnil
        · exact hno h' (by omega)
    · have he : halfOf d far at_ k = h := by
        by_cases hc : halfOf d far at_ k < h
        · exact (b2 (hno _ hc)).elim
        · by_cases hc2 : h < halfOf d far at_ k
          · exact (hne (b3 h hc2)).elim
          · omega
      simp [ABlock_exit, AThen_exit]
      have := hq f2 S2 v2' va' kg
      rw [he] at this
      exact this ks
  have hfr0 : Hf (S.n + 1 + 2 + 1 + 3) S.g (toL d far (at_.take 0) h k) (fun _ => .sl true []) ⟨S.n + 1 + 2 + 1 + 3, S.g⟩ := ⟨fun _ _ => rfl, Nat.le_refl _, by simp [toL]; exact .nil, by simp [AV.ids]⟩
  rcases sn.a with ea | ⟨id, off, ys, ea, _⟩
  · have e7 := gg.e7.trans ea
    simp [AW_seq, AW_reg, AW_regD, AW_block, AW_cond, AW_skip, AW_exit, AW_ret, AW_scp, condR_true, condR_false, AThen_normal, AThen_ret, AThen_exit, ABlock_normal, ABlock_ret, ABlock_exit, AScope_normal, AScope_ret, AScope_exit, RetK_ret, RetK_normal, retAV_one, retAV_two, retAV_three, retAV_nil, RG_nil, RG_op, RG_guard, gdR_tt, gdR_ff, gdR_tf, gdR_ft, gdR_un, RG_call, callQ_clo, contK_ap, opR_some, RD_nil, RD_op0, RD_op1, opD0_some, opD1_some, RD_call, callQD_clo, RD_guard, gdD_tt, gdD_ff, gdD_tf, gdD_ft, gdD_un, psh_nil, psh_cons, Apt_nil, Apt_nilT, Apt_true, Apt_false, Dis_def, runT_val, runT_rd, runT_wr, runT_new, runT_mv, ex, put_some, put_none, ev_t, ev_c, argF_zero, argF_succ, set_g, set_n, cells_v, cells_sl, cells_agg, cells_own, cells_ptr, cells_clo, cells_eptr, cells_mp, putc, exBslice, lfill, exField, exIdxV, exIdxP, exBox, exAlloc, exLoad, exStore, exFieldA, exIdxA, exLen, exPick, exUn, exBeq, exMM, exSeq, seqGo, exExt, binV, intOp, subc, AV.solid, S0, encI, encB, e43, e44, e7, hhI]
    refine mk_at R hsg hfl hlt (Nat.le_of_eq hhn) hat.rng hal sn.a (fun i hi => by have := (sn.ai i hi).1; omega) sn.g15 (by have := sn.n; omega) (nB := S.n + 1 + 2 + 1 + 3) (v2 := v2) ⟨0, by omega, by omega, ?_, ?_, ?_, ⟨?_, ?_, ?_, ?_, ?_, ?_, ?_, ?_, ?_⟩, ?_⟩ fin
    · simp [put_some, ea]
    · simp [put_some, encI]
    · simp [put_some, encI]
    · simp [put_some, gg.e1]
    · simp [put_some, gg.e2]
    · simp [put_some, gg.e5]
    · simp [put_some, gg.e6]
    · simp [put_some, gg.e7]
    · simp [put_some, gg.e8]
    · simp [put_some, encI]
    · simp [put_some, e43]
    · simp [put_some, e44]
    · obtain ⟨q1, q2, q3, q4⟩ := hfr0
      exact ⟨q1, q2, by simpa [put_some] using q3, by simp [put_some, AV.ids]⟩
  · have e7 := gg.e7.trans ea
    simp [AW_seq, AW_reg, AW_regD, AW_block, AW_cond, AW_skip, AW_exit, AW_ret, AW_scp, condR_true, condR_false, AThen_normal, AThen_ret, AThen_exit, ABlock_normal, ABlock_ret, ABlock_exit, AScope_normal, AScope_ret, AScope_exit, RetK_ret, RetK_normal, retAV_one, retAV_two, retAV_three, retAV_nil, RG_nil, RG_op, RG_guard, gdR_tt, gdR_ff, gdR_tf, gdR_ft, gdR_un, RG_call, callQ_clo, contK_ap, opR_some, RD_nil, RD_op0, RD_op1, opD0_some, opD1_some, RD_call, callQD_clo, RD_guard, gdD_tt, gdD_ff, gdD_tf, gdD_ft, gdD_un, psh_nil, psh_cons, Apt_nil, Apt_nilT, Apt_true, Apt_false, Dis_def, runT_val, runT_rd, runT_wr, runT_new, runT_mv, ex, put_some, put_none, ev_t, ev_c, argF_zero, argF_succ, set_g, set_n, cells_v, cells_sl, cells_agg, cells_own, cells_ptr, cells_clo, cells_eptr, cells_mp, putc, exBslice, lfill, exField, exIdxV, exIdxP, exBox, exAlloc, exLoad, exStore, exFieldA, exIdxA, exLen, exPick, exUn, exBeq, exMM, exSeq, seqGo, exExt, binV, intOp, subc, AV.solid, S0, encI, encB, e43, e44, e7, hhI]
    refine mk_at R hsg hfl hlt (Nat.le_of_eq hhn) hat.rng hal sn.a (fun i hi => by have := (sn.ai i hi).1; omega) sn.g15 (by have := sn.n; omega) (nB := S.n + 1 + 2 + 1 + 3) (v2 := v2) ⟨0, by omega, by omega, ?_, ?_, ?_, ⟨?_, ?_, ?_, ?_, ?_, ?_, ?_, ?_, ?_⟩, ?_⟩ fin
    · simp [put_some, ea]
    · simp [put_some, encI]
    · simp [put_some, encI]
    · simp [put_some, gg.e1]
    · simp [put_some, gg.e2]
    · simp [put_some, gg.e5]
    · simp [put_some, gg.e6]
    · simp [put_some, gg.e7]
    · simp [put_some, gg.e8]
    · simp [put_some, encI]
    · simp [put_some, e43]
    · simp [put_some, e44]
    · obtain ⟨q1, q2, q3, q4⟩ := hfr0
      exact ⟨q1, q2, by simpa [put_some] using q3, by simp [put_some, AV.ids]⟩
theorem incr_len : ∀ (l : List Int) (a b : Int), l.Pairwise (· < ·) → (∀ x ∈ l, a ≤ x ∧ x < b) → a ≤ b → (l.length : Int) ≤ b - a
  | [], a, b, _, _, h => by simp; omega
  | x :: l, a, b, hp, hb, h => by
    have h1 := List.pairwise_cons.mp hp
    have hx := hb x (by simp)
    have := incr_len l (x + 1) b h1.2 (fun y hy => ⟨by have := h1.1 y hy; omega, (hb y (by simp [hy])).2⟩) (by omega)
    simp; omega
theorem compact_incr {zs : List Int} (hs : zs.Pairwise (· ≤ ·)) : (Lib.compact zs).Pairwise (· < ·) := by
  have hget : ∀ j (hj : j < zs.length), zs.toArray[j]! = zs[j] := fun j hj => by simp [hj]
  simp only [Lib.compact, Lib.compactUpTo, List.pairwise_map]
  refine List.Pairwise.imp_of_mem (R := (· < ·)) (fun {a b} ha hb hab => ?_) (List.Pairwise.filter _ List.pairwise_lt_range)
  simp only [List.mem_filter, List.mem_range] at ha hb
  obtain ⟨hb1, hb2⟩ := hb
  have hk : b = 0 ∨ zs.toArray[b]! ≠ zs.toArray[b - 1]! := by simpa [Lib.keeps] using hb2
  have hk' : zs.toArray[b]! ≠ zs.toArray[b - 1]! := by
    rcases hk with h | h
    · omega
    · exact h
  rw [hget b hb1, hget (b - 1) (by omega)] at hk'
  rw [hget a ha.1, hget b hb1]
  have hpw := List.pairwise_iff_getElem.mp hs
  have h1 : zs[a] ≤ zs[b - 1] := by
    by_cases e : a = b - 1
    · subst e; exact Int.le_refl _
    · exact hpw a (b - 1) ha.1 (by omega) (by omega)
  have h2 : zs[b - 1] ≤ zs[b] := hpw (b - 1) b (by omega) hb1 (by omega)
  omega
theorem sorted_I (l : List Int) : (l.mergeSort fun x y => decide (x ≤ y)).Pairwise (· ≤ ·) := by
  have := List.pairwise_mergeSort (le := fun x y : Int => decide (x ≤ y)) (fun a b c h1 h2 => by simp at *; omega) (fun a b => by simp; omega) l
  exact this.imp (fun h => by simpa using h)
theorem nextAt_len {d : Det} {far at_ : List Int} {h : Nat} {left : Int} {N : Nat} (hr : ∀ x ∈ nextAt d far at_ h left, 0 ≤ x ∧ x < N) : (nextAt d far at_ h left).length ≤ N := by
  have := incr_len _ 0 N (compact_incr (sorted_I _)) hr (by omega)
  simp only [nextAt] at this ⊢
  omega
def mkL (d : Det) (far : List Int) (tot : List Int) (m : Nat) (f : AF) (S : St) : Prop :=
  ∃ v2 va sgs at_, MkG d far ((m : Int) - 1) v2 va f ∧ Snap d v2 va sgs at_ S.n S.g ∧ AtOk d far at_ m ∧ at_.length ≤ 100000 ∧ sgs ++ markFrom d far m at_ = tot
theorem mk_left {P : Program} {fs fc : FuncId} (Hs : HSort P fs) (Hc : HComp P fc) {d : Det} (R : RightD d) (hev : d.signs % 2 = 0) {far : List Int} (fo : FarOk (pg d) far) {tot : List Int} (ht : tot.length ≤ 100000) {f : AF} {S : St} {Q : Exit → AF → St → Prop} (m : Nat) (h0 : mkL d far tot m f S)
    (hq : ∀ f' S' v2 va at_, MkG d far (-1) v2 va f' → Snap d v2 va tot at_ S'.n S'.g → Q .normal f' S') : AW P (c_mk_left fs fc) Q f S := by
  obtain ⟨sg, hsg⟩ : ∃ sg : Nat, d.signs = sg := ⟨d.signs.toNat, by have := R.s1; omega⟩
  have hs2 := R.s2
  have hn2 := R.n2
  simp [AW_seq, AW_reg, AW_regD, AW_block, AW_cond, AW_skip, AW_exit, AW_ret, AW_scp, condR_true, condR_false, AThen_normal, AThen_ret, AThen_exit, ABlock_normal, ABlock_ret, ABlock_exit, AScope_normal, AScope_ret, AScope_exit, RetK_ret, RetK_normal, retAV_one, retAV_two, retAV_three, retAV_nil, RG_nil, RG_op, RG_guard, gdR_tt, gdR_ff, gdR_tf, gdR_ft, gdR_un, RG_call, callQ_clo, contK_ap, opR_some, RD_nil, RD_op0, RD_op1, opD0_some, opD1_some, RD_call, callQD_clo, RD_guard, gdD_tt, gdD_ff, gdD_tf, gdD_ft, gdD_un, psh_nil, psh_cons, Apt_nil, Apt_nilT, Apt_true, Apt_false, Dis_def, runT_val, runT_rd, runT_wr, runT_new, runT_mv, ex, put_some, put_none, ev_t, ev_c, argF_zero, argF_succ, set_g, set_n, cells_v, cells_sl, cells_agg, cells_own, cells_ptr, cells_clo, cells_eptr, cells_mp, putc, exBslice, lfill, exField, exIdxV, exIdxP, exBox, exAlloc, exLoad, exStore, exFieldA, exIdxA, exLen, exPick, exUn, exBeq, exMM, exSeq, seqGo, exExt, binV, intOp, subc, AV.solid, S0, encI, encB, c_mk_left]
  refine AW_loop (mkL d far tot) m h0 ?_
  rintro m f S ⟨v2, va, sgs, at_, gg, sn, hat, hal, htot⟩
  cases m with
  | zero =>
    have e8 : f 8 = encI (-1) := by rw [gg.e8]; rfl
    simp [AW_seq, AW_reg, AW_regD, AW_block, AW_cond, AW_skip, AW_exit, AW_ret, AW_scp, condR_true, condR_false, AThen_normal, AThen_ret, AThen_exit, ABlock_normal, ABlock_ret, ABlock_exit, AScope_normal, AScope_ret, AScope_exit, RetK_ret, RetK_normal, retAV_one, retAV_two, retAV_three, retAV_nil, RG_nil, RG_op, RG_guard, gdR_tt, gdR_ff, gdR_tf, gdR_ft, gdR_un, RG_call, callQ_clo, contK_ap, opR_some, RD_nil, RD_op0, RD_op1, opD0_some, opD1_some, RD_call, callQD_clo, RD_guard, gdD_tt, gdD_ff, gdD_tf, gdD_ft, gdD_un, psh_nil, psh_cons, Apt_nil, Apt_nilT, Apt_true, Apt_false, Dis_def, runT_val, runT_rd, runT_wr, runT_new, runT_mv, ex, put_some, put_none, ev_t, ev_c, argF_zero, argF_succ, set_g, set_n, cells_v, cells_sl, cells_agg, cells_own, cells_ptr, cells_clo, cells_eptr, cells_mp, putc, exBslice, lfill, exField, exIdxV, exIdxP, exBox, exAlloc, exLoad, exStore, exFieldA, exIdxA, exLen, exPick, exUn, exBeq, exMM, exSeq, seqGo, exExt, binV, intOp, subc, AV.solid, S0, encI, encB, e8]
    have hl : sgs = tot := by rw [markFrom, List.append_nil] at htot; exact htot
    subst hl
    refine hq _ _ v2 va at_ ⟨by simp [put_some, gg.e1], by simp [put_some, gg.e2], by simp [put_some, gg.e5], by simp [put_some, gg.e6], by simp [put_some, gg.e7], by simp [put_some, e8, encI]⟩ (sn.frame (by simp) (fun _ _ => rfl))
  | succ k =>
    have e8 : f 8 = encI k := by rw [gg.e8]; congr 1; omega
    have hk0 : (0 : Int) ≤ (k : Int) := by omega
    have g0 := sn.g0
    have hw : IntKind.i64.wrap ((sg : Int) / 2) = ((sg / 2 : Nat) : Int) := by rw [wrap_in _ (by omega)]; omega
    have hw2 : IntKind.i64.wrap ((k : Int) - 1) = (k : Int) - 1 := wrap_in _ (by
      have h1 := hat.far
      have := congrArg List.length htot
      simp [markFrom_length] at this
      omega)
    have hsl : sgs.length ≤ 100000 := by
      have := congrArg List.length htot
      simp [markFrom_length] at this
      omega
    obtain ⟨b1, b2, b3⟩ := half_ex R hev fo hat
    simp [AW_seq, AW_reg, AW_regD, AW_block, AW_cond, AW_skip, AW_exit, AW_ret, AW_scp, condR_true, condR_false, AThen_normal, AThen_ret, AThen_exit, ABlock_normal, ABlock_ret, ABlock_exit, AScope_normal, AScope_ret, AScope_exit, RetK_ret, RetK_normal, retAV_one, retAV_two, retAV_three, retAV_nil, RG_nil, RG_op, RG_guard, gdR_tt, gdR_ff, gdR_tf, gdR_ft, gdR_un, RG_call, callQ_clo, contK_ap, opR_some, RD_nil, RD_op0, RD_op1, opD0_some, opD1_some, RD_call, callQD_clo, RD_guard, gdD_tt, gdD_ff, gdD_tf, gdD_ft, gdD_un, psh_nil, psh_cons, Apt_nil, Apt_nilT, Apt_true, Apt_false, Dis_def, runT_val, runT_rd, runT_wr, runT_new, runT_mv, ex, put_some, put_none, ev_t, ev_c, argF_zero, argF_succ, set_g, set_n, cells_v, cells_sl, cells_agg, cells_own, cells_ptr, cells_clo, cells_eptr, cells_mp, putc, exBslice, lfill, exField, exIdxV, exIdxP, exBox, exAlloc, exLoad, exStore, exFieldA, exIdxA, exLen, exPick, exUn, exBeq, exMM, exSeq, seqGo, exExt, binV, intOp, subc, AV.solid, S0, encI, encB, e8, gg.e1, g0, encDet, hsg, hk0, hw]
    refine mk_half Hs Hc R hev hsg (hn := sg / 2) (by omega) fo hat hal hsl (v2 := v2) (va := va) (sgs := sgs) ⟨0, by omega, by omega, ?_, ?_, ⟨?_, ?_, ?_, ?_, ?_, ?_⟩, sn.frame (by simp <;> omega) (fun _ _ => rfl), by omega⟩ (fun f' S' v2' va' kg ks => ?_)
    · simp [put_some, encI]
    · simp [put_some, encI]
    · simp [put_some, gg.e1]
    · simp [put_some, gg.e2]
    · simp [put_some, gg.e5]
    · simp [put_some, gg.e6]
    · simp [put_some, gg.e7]
    · simp [put_some, e8]
    · have hnx := hat.next R b2
      have hnl : (nextAt d far at_ (halfOf d far at_ k) k).length ≤ 3 * d.next.length := nextAt_len (fun x hx => by have := hnx.rng x hx; omega)
      simp [AW_seq, AW_reg, AW_regD, AW_block, AW_cond, AW_skip, AW_exit, AW_ret, AW_scp, condR_true, condR_false, AThen_normal, AThen_ret, AThen_exit, ABlock_normal, ABlock_ret, ABlock_exit, AScope_normal, AScope_ret, AScope_exit, RetK_ret, RetK_normal, retAV_one, retAV_two, retAV_three, retAV_nil, RG_nil, RG_op, RG_guard, gdR_tt, gdR_ff, gdR_tf, gdR_ft, gdR_un, RG_call, callQ_clo, contK_ap, opR_some, RD_nil, RD_op0, RD_op1, opD0_some, opD1_some, RD_call, callQD_clo, RD_guard, gdD_tt, gdD_ff, gdD_tf, gdD_ft, gdD_un, psh_nil, psh_cons, Apt_nil, Apt_nilT, Apt_true, Apt_false, Dis_def, runT_val, runT_rd, runT_wr, runT_new, runT_mv, ex, put_some, put_none, ev_t, ev_c, argF_zero, argF_succ, set_g, set_n, cells_v, cells_sl, cells_agg, cells_own, cells_ptr, cells_clo, cells_eptr, cells_mp, putc, exBslice, lfill, exField, exIdxV, exIdxP, exBox, exAlloc, exLoad, exStore, exFieldA, exIdxA, exLen, exPick, exUn, exBeq, exMM, exSeq, seqGo, exExt, binV, intOp, subc, AV.solid, S0, encI, encB, kg.e8, hw2]
      refine ⟨k, by omega, v2', va', sgs ++ [(halfOf d far at_ k : Int)], nextAt d far at_ (halfOf d far at_ k) k, ⟨?_, ?_, ?_, ?_, ?_, ?_⟩, ks.frame (by simp) (fun _ _ => rfl), hnx, by omega, ?_⟩
      · simp [put_some, kg.e1]
      · simp [put_some, kg.e2]
      · simp [put_some, kg.e5]
      · simp [put_some, kg.e6]
      · simp [put_some, kg.e7]
      · simp [put_some, encI]
      · rw [← htot, markFrom, List.append_assoc]; rfl
def mkQ (d : Det) (sgs : List Int) (pf : Nat) (v2 : AV) (m : Nat) (f : AF) (S : St) : Prop :=
  ∃ p : Nat, 1 ≤ p ∧ p ≤ pf ∧ m = pf - p ∧ f 1 = .ptr 0 0 0 ∧ f 2 = v2 ∧ f 3 = encI p ∧ S.g 0 = some (.arr 3 [encDet d]) ∧ Vec S.g v2 1 (sgs.map encI)
theorem mk_end {P : Program} {fw fa : FuncId} {d : Det} {sgs : List Int} (hsl : sgs.length ≤ 1000000) (hw : ∀ p : Int, PureC P fw [encIs sgs, encI p] (encIs (writeS sgs p)) ∧ PureN P fw [encIs sgs, encI p] (encIs (writeS sgs p)))
    (ha : ∀ p : Int, PureC P fa [encDet d, encIs (writeS sgs p)] (encB (accD d (writeS sgs p)))) {pf : Nat} (hpf : IsFirst d sgs pf) {v2 : AV} {f : AF} {S : St} (e1 : f 1 = .ptr 0 0 0) (e2 : f 2 = v2) (g0 : S.g 0 = some (.arr 3 [encDet d])) (hv : Vec S.g v2 1 (sgs.map encI)) :
    AW P (c_mk_end fw fa) (AScope (RetK [2, 3, 4] (FzK (.tup [encIs sgs, encI pf, encB true])))) f S := by
  have hlo := hpf.lo
  have hhi := hpf.hi
  simp [AW_seq, AW_reg, AW_regD, AW_block, AW_cond, AW_skip, AW_exit, AW_ret, AW_scp, condR_true, condR_false, AThen_normal, AThen_ret, AThen_exit, ABlock_normal, ABlock_ret, ABlock_exit, AScope_normal, AScope_ret, AScope_exit, RetK_ret, RetK_normal, retAV_one, retAV_two, retAV_three, retAV_nil, RG_nil, RG_op, RG_guard, gdR_tt, gdR_ff, gdR_tf, gdR_ft, gdR_un, RG_call, callQ_clo, contK_ap, opR_some, RD_nil, RD_op0, RD_op1, opD0_some, opD1_some, RD_call, callQD_clo, RD_guard, gdD_tt, gdD_ff, gdD_tf, gdD_ft, gdD_un, psh_nil, psh_cons, Apt_nil, Apt_nilT, Apt_true, Apt_false, Dis_def, runT_val, runT_rd, runT_wr, runT_new, runT_mv, ex, put_some, put_none, ev_t, ev_c, argF_zero, argF_succ, set_g, set_n, cells_v, cells_sl, cells_agg, cells_own, cells_ptr, cells_clo, cells_eptr, cells_mp, putc, exBslice, lfill, exField, exIdxV, exIdxP, exBox, exAlloc, exLoad, exStore, exFieldA, exIdxA, exLen, exPick, exUn, exBeq, exMM, exSeq, seqGo, exExt, binV, intOp, subc, AV.solid, S0, encI, encB, c_mk_end, c_mk_place]
  refine AW_loop (mkQ d sgs pf v2) (pf - 1) ⟨1, by omega, hlo, rfl, by simp [put_some, e1], by simp [put_some, e2], by simp [put_some, encI], g0, hv.frame (fun _ _ => rfl)⟩ ?_
  rintro m f S ⟨p, p1, p2, rfl, e1, e2, e3, g0, hv⟩
  have hw3 : IntKind.i64.wrap ((p : Int) + 1) = (p : Int) + 1 := wrap_in _ (by omega)
  have hvo : Vec (only v2.ids S.g) v2 1 (sgs.map encI) := hv.frame (fun i hi => by rw [only_g, if_pos hi])
  have hcd1 : ∀ n, CallD P fw [v2, .v (.int .i64 p)] ⟨n, S.g⟩ v2.ids (encIs (writeS sgs p)) := fun n => by
    refine ⟨[encIs sgs, encI p], (hw p).1, rfl, fun j h1 h2 => ?_, .inr (.inr ⟨closed_Is _, (hw p).2⟩)⟩
    match j, h1 with
    | 0, _ => exact hvo.fz closed_I
    | 1, _ => exact .closed _ (.v _)
  have hcd2 : ∀ n, CallD P fa [.agg [.v (.int .i64 d.signs), encIss d.next, encBs d.fin], encIs (writeS sgs p)] ⟨n, S.g⟩ [] (encB (accD d (writeS sgs p))) := fun n => by
    refine ⟨[encDet d, encIs (writeS sgs p)], ha p, rfl, fun j h1 h2 => ?_, .inl (plain_B _)⟩
    match j, h1 with
    | 0, _ => exact .closed _ (closed_Det d)
    | 1, _ => exact .closed _ (closed_Is _)
  simp [AW_seq, AW_reg, AW_regD, AW_block, AW_cond, AW_skip, AW_exit, AW_ret, AW_scp, condR_true, condR_false, AThen_normal, AThen_ret, AThen_exit, ABlock_normal, ABlock_ret, ABlock_exit, AScope_normal, AScope_ret, AScope_exit, RetK_ret, RetK_normal, retAV_one, retAV_two, retAV_three, retAV_nil, RG_nil, RG_op, RG_guard, gdR_tt, gdR_ff, gdR_tf, gdR_ft, gdR_un, RG_call, callQ_clo, contK_ap, opR_some, RD_nil, RD_op0, RD_op1, opD0_some, opD1_some, RD_call, callQD_clo, RD_guard, gdD_tt, gdD_ff, gdD_tf, gdD_ft, gdD_un, psh_nil, psh_cons, Apt_nil, Apt_nilT, Apt_true, Apt_false, Dis_def, runT_val, runT_rd, runT_wr, runT_new, runT_mv, ex, put_some, put_none, ev_t, ev_c, argF_zero, argF_succ, set_g, set_n, cells_v, cells_sl, cells_agg, cells_own, cells_ptr, cells_clo, cells_eptr, cells_mp, putc, exBslice, lfill, exField, exIdxV, exIdxP, exBox, exAlloc, exLoad, exStore, exFieldA, exIdxA, exLen, exPick, exUn, exBeq, exMM, exSeq, seqGo, exExt, binV, intOp, subc, AV.solid, S0, encI, encB, e1, e2, e3, g0, encDet]
  refine ⟨_, ⟨_, hcd1 _⟩, _, ⟨_, hcd2 _⟩, ?_⟩
  by_cases hp : p = pf
  · subst hp
    rw [hpf.acc]
    simp [AW_seq, AW_reg, AW_regD, AW_block, AW_cond, AW_skip, AW_exit, AW_ret, AW_scp, condR_true, condR_false, AThen_normal, AThen_ret, AThen_exit, ABlock_normal, ABlock_ret, ABlock_exit, AScope_normal, AScope_ret, AScope_exit, RetK_ret, RetK_normal, retAV_one, retAV_two, retAV_three, retAV_nil, RG_nil, RG_op, RG_guard, gdR_tt, gdR_ff, gdR_tf, gdR_ft, gdR_un, RG_call, callQ_clo, contK_ap, opR_some, RD_nil, RD_op0, RD_op1, opD0_some, opD1_some, RD_call, callQD_clo, RD_guard, gdD_tt, gdD_ff, gdD_tf, gdD_ft, gdD_un, psh_nil, psh_cons, Apt_nil, Apt_nilT, Apt_true, Apt_false, Dis_def, runT_val, runT_rd, runT_wr, runT_new, runT_mv, ex, put_some, put_none, ev_t, ev_c, argF_zero, argF_succ, set_g, set_n, cells_v, cells_sl, cells_agg, cells_own, cells_ptr, cells_clo, cells_eptr, cells_mp, putc, exBslice, lfill, exField, exIdxV, exIdxP, exBox, exAlloc, exLoad, exStore, exFieldA, exIdxA, exLen, exPick, exUn, exBeq, exMM, exSeq, seqGo, exExt, binV, intOp, subc, AV.solid, S0, encI, encB, e2, e3]
    exact .tup _ _ rfl (by
      intro j h1 h2
      match j, h1 with
      | 0, _ => exact hv.fz closed_I
      | 1, _ => exact .closed _ (.v _)
      | 2, _ => exact .closed _ (.v _))
  · rw [hpf.fst p p1 (by omega)]
    simp [AW_seq, AW_reg, AW_regD, AW_block, AW_cond, AW_skip, AW_exit, AW_ret, AW_scp, condR_true, condR_false, AThen_normal, AThen_ret, AThen_exit, ABlock_normal, ABlock_ret, ABlock_exit, AScope_normal, AScope_ret, AScope_exit, RetK_ret, RetK_normal, retAV_one, retAV_two, retAV_three, retAV_nil, RG_nil, RG_op, RG_guard, gdR_tt, gdR_ff, gdR_tf, gdR_ft, gdR_un, RG_call, callQ_clo, contK_ap, opR_some, RD_nil, RD_op0, RD_op1, opD0_some, opD1_some, RD_call, callQD_clo, RD_guard, gdD_tt, gdD_ff, gdD_tf, gdD_ft, gdD_un, psh_nil, psh_cons, Apt_nil, Apt_nilT, Apt_true, Apt_false, Dis_def, runT_val, runT_rd, runT_wr, runT_new, runT_mv, ex, put_some, put_none, ev_t, ev_c, argF_zero, argF_succ, set_g, set_n, cells_v, cells_sl, cells_agg, cells_own, cells_ptr, cells_clo, cells_eptr, cells_mp, putc, exBslice, lfill, exField, exIdxV, exIdxP, exBox, exAlloc, exLoad, exStore, exFieldA, exIdxA, exLen, exPick, exUn, exBeq, exMM, exSeq, seqGo, exExt, binV, intOp, subc, AV.solid, S0, encI, encB, e2, e3, hw3]
    refine ⟨pf - (p + 1), by omega, p + 1, by omega, by omega, rfl, ?_, ?_, ?_, g0, hv⟩
    · simp [put_some, e1]
    · simp [put_some, e2]
    · simp [put_some, encI]
open Classical in
noncomputable def markP (d : Det) : Nat := if h : ∃ p, IsFirst d (markS d) p then h.choose else 0
theorem markP_first {d : Det} (h : ∃ p, IsFirst d (markS d) p) : IsFirst d (markS d) (markP d) := by
  unfold markP; rw [dif_pos h]; exact h.choose_spec
theorem mark_no {d : Det} (h : markOk d = false) : markS d = [] ∧ markP d = 0 := by
  have hs : markS d = [] := by unfold markS; rw [h]; rfl
  refine ⟨hs, ?_⟩
  unfold markP
  rw [dif_neg]
  rintro ⟨p, hp⟩
  have := hp.hi; rw [hs] at this; simp at this
theorem fz_none {d : Det} (h : markOk d = false) (S : St) : FzK (.tup [encIs (markS d), encI (markP d), encB (markOk d)]) (.tup [.sl true [], .v (.int .i64 0), .v (.bool false)]) S := by
  obtain ⟨h1, h2⟩ := mark_no h
  rw [h1, h2, h]
  exact .tup _ _ rfl (by
    intro j k1 k2
    match j, k1 with
    | 0, _ => exact .loose true [] (.sl _ _ (by simp))
    | 1, _ => exact .closed _ (.v _)
    | 2, _ => exact .closed _ (.v _))
theorem path_Marked_body {P : Program} {fr fp fg fs fc fw fa : FuncId} (Hs : HSort P fs) (Hc : HComp P fc) (d : Det) (hr : PureC P fr [encDet d] (encB (rightD d))) (hp : RightD d → PureC P fp [encDet d] (encGr (pg d))) (hg : RightD d → PureC P fg [encGr (pg d)] (encIs (farS (pg d))))
    (hw : ∀ (s : List Int) (p : Int), s.length ≤ 1000000 → PureC P fw [encIs s, encI p] (encIs (writeS s p)) ∧ PureN P fw [encIs s, encI p] (encIs (writeS s p))) (ha : ∀ l : List Int, Len l → PureC P fa [encDet d, encIs l] (encB (accD d l))) :
    AW P (c_path_Marked fr fp fg fs fc fw fa) (RetK [2, 3, 4] (FzK (.tup [encIs (markS d), encI (markP d), encB (markOk d)]))) (argF [encDet d]) S0 := by
  by_cases hR : rightD d = true
  · have R := (right_iff d).mp hR
    obtain ⟨signs, next, fin⟩ := d
    obtain ⟨sg, hsg⟩ : ∃ sg : Nat, signs = sg := ⟨signs.toNat, by have := R.s1; simp only at this; omega⟩
    subst hsg
    have hs1 := R.s1
    have hs2 := R.s2
    have hn1 := R.n1
    have hn2 := R.n2
    simp only at hs1 hs2 hn1 hn2
    have ha1 := and1 sg (by omega)
    have fo := farS_ok (pg ⟨(sg : Int), next, fin⟩)
    have hgn := pg_n ⟨(sg : Int), next, fin⟩
    simp only at hgn
    by_cases hev : sg % 2 = 0
    · have hev' : (Det.mk (sg : Int) next fin).signs % 2 = 0 := by show (sg : Int) % 2 = 0; omega
      rw [hev] at ha1
      have hok := markOk_iff R hev'
      simp [AW_seq, AW_reg, AW_regD, AW_block, AW_cond, AW_skip, AW_exit, AW_ret, AW_scp, condR_true, condR_false, AThen_normal, AThen_ret, AThen_exit, ABlock_normal, ABlock_ret, ABlock_exit, AScope_normal, AScope_ret, AScope_exit, RetK_ret, RetK_normal, retAV_one, retAV_two, retAV_three, retAV_nil, RG_nil, RG_op, RG_guard, gdR_tt, gdR_ff, gdR_tf, gdR_ft, gdR_un, RG_call, callQ_clo, contK_ap, opR_some, RD_nil, RD_op0, RD_op1, opD0_some, opD1_some, RD_call, callQD_clo, RD_guard, gdD_tt, gdD_ff, gdD_tf, gdD_ft, gdD_un, psh_nil, psh_cons, Apt_nil, Apt_nilT, Apt_true, Apt_false, Dis_def, runT_val, runT_rd, runT_wr, runT_new, runT_mv, ex, put_some, put_none, ev_t, ev_c, argF_zero, argF_succ, set_g, set_n, cells_v, cells_sl, cells_agg, cells_own, cells_ptr, cells_clo, cells_eptr, cells_mp, putc, exBslice, lfill, exField, exIdxV, exIdxP, exBox, exAlloc, exLoad, exStore, exFieldA, exIdxA, exLen, exPick, exUn, exBeq, exMM, exSeq, seqGo, exExt, binV, intOp, subc, AV.solid, S0, encI, encB, c_path_Marked, encDet]
      refine CallR.pure hr (cl_cons (closed_Det _) cl_nil) (closed_B _) ?_
      simp [AW_seq, AW_reg, AW_regD, AW_block, AW_cond, AW_skip, AW_exit, AW_ret, AW_scp, condR_true, condR_false, AThen_normal, AThen_ret, AThen_exit, ABlock_normal, ABlock_ret, ABlock_exit, AScope_normal, AScope_ret, AScope_exit, RetK_ret, RetK_normal, retAV_one, retAV_two, retAV_three, retAV_nil, RG_nil, RG_op, RG_guard, gdR_tt, gdR_ff, gdR_tf, gdR_ft, gdR_un, RG_call, callQ_clo, contK_ap, opR_some, RD_nil, RD_op0, RD_op1, opD0_some, opD1_some, RD_call, callQD_clo, RD_guard, gdD_tt, gdD_ff, gdD_tf, gdD_ft, gdD_un, psh_nil, psh_cons, Apt_nil, Apt_nilT, Apt_true, Apt_false, Dis_def, runT_val, runT_rd, runT_wr, runT_new, runT_mv, ex, put_some, put_none, ev_t, ev_c, argF_zero, argF_succ, set_g, set_n, cells_v, cells_sl, cells_agg, cells_own, cells_ptr, cells_clo, cells_eptr, cells_mp, putc, exBslice, lfill, exField, exIdxV, exIdxP, exBox, exAlloc, exLoad, exStore, exFieldA, exIdxA, exLen, exPick, exUn, exBeq, exMM, exSeq, seqGo, exExt, binV, intOp, subc, AV.solid, S0, encI, encB, hR, encDet, ha1]
      refine CallR.pure (hp R) (cl_cons (closed_Det _) cl_nil) (closed_Gr _) ?_
      simp [AW_seq, AW_reg, AW_regD, AW_block, AW_cond, AW_skip, AW_exit, AW_ret, AW_scp, condR_true, condR_false, AThen_normal, AThen_ret, AThen_exit, ABlock_normal, ABlock_ret, ABlock_exit, AScope_normal, AScope_ret, AScope_exit, RetK_ret, RetK_normal, retAV_one, retAV_two, retAV_three, retAV_nil, RG_nil, RG_op, RG_guard, gdR_tt, gdR_ff, gdR_tf, gdR_ft, gdR_un, RG_call, callQ_clo, contK_ap, opR_some, RD_nil, RD_op0, RD_op1, opD0_some, opD1_some, RD_call, callQD_clo, RD_guard, gdD_tt, gdD_ff, gdD_tf, gdD_ft, gdD_un, psh_nil, psh_cons, Apt_nil, Apt_nilT, Apt_true, Apt_false, Dis_def, runT_val, runT_rd, runT_wr, runT_new, runT_mv, ex, put_some, put_none, ev_t, ev_c, argF_zero, argF_succ, set_g, set_n, cells_v, cells_sl, cells_agg, cells_own, cells_ptr, cells_clo, cells_eptr, cells_mp, putc, exBslice, lfill, exField, exIdxV, exIdxP, exBox, exAlloc, exLoad, exStore, exFieldA, exIdxA, exLen, exPick, exUn, exBeq, exMM, exSeq, seqGo, exExt, binV, intOp, subc, AV.solid, S0, encI, encB, encGr]
      refine CallR.pure (hg R) (cl_cons (closed_Gr _) cl_nil) (closed_Is _) ?_
      have hfp : farP ⟨(sg : Int), next, fin⟩ = farS (pg ⟨(sg : Int), next, fin⟩) := rfl
      rw [hfp] at hok
      have hS0 : markOk ⟨(sg : Int), next, fin⟩ = true → markS ⟨(sg : Int), next, fin⟩ = markFrom ⟨(sg : Int), next, fin⟩ (farS (pg ⟨(sg : Int), next, fin⟩)) (rd (farS (pg ⟨(sg : Int), next, fin⟩)) 0).toNat [0] := fun h => by unfold markS; rw [if_pos h]; rfl
      have hat0 : 0 ≤ rd (farS (pg ⟨(sg : Int), next, fin⟩)) 0 → AtOk ⟨(sg : Int), next, fin⟩ (farS (pg ⟨(sg : Int), next, fin⟩)) [0] (rd (farS (pg ⟨(sg : Int), next, fin⟩)) 0).toNat := fun h => atOk0 R h
      have hval := fo.val 0 (by omega)
      have hltf := fo.lt 0 (by omega)
      have hfl := fo.len
      generalize hfg : farS (pg ⟨(sg : Int), next, fin⟩) = far at *
      have h0 : 0 < far.length := by omega
      have h0I : (0 : Int) < far.length := by omega
      have hg0 : far[0]? = some far[0] := List.getElem?_eq_getElem h0
      have hr0 := rd_get h0
      by_cases hno : far[0] = -1
      · have hb : (far[0] == -1) = true := by simp [hno]
        have hmo : markOk ⟨(sg : Int), next, fin⟩ = false := by
          cases h : markOk ⟨(sg : Int), next, fin⟩ with
          | false => rfl
          | true => have := hok.mp h; omega
        simp [AW_seq, AW_reg, AW_regD, AW_block, AW_cond, AW_skip, AW_exit, AW_ret, AW_scp, condR_true, condR_false, AThen_normal, AThen_ret, AThen_exit, ABlock_normal, ABlock_ret, ABlock_exit, AScope_normal, AScope_ret, AScope_exit, RetK_ret, RetK_normal, retAV_one, retAV_two, retAV_three, retAV_nil, RG_nil, RG_op, RG_guard, gdR_tt, gdR_ff, gdR_tf, gdR_ft, gdR_un, RG_call, callQ_clo, contK_ap, opR_some, RD_nil, RD_op0, RD_op1, opD0_some, opD1_some, RD_call, callQD_clo, RD_guard, gdD_tt, gdD_ff, gdD_tf, gdD_ft, gdD_un, psh_nil, psh_cons, Apt_nil, Apt_nilT, Apt_true, Apt_false, Dis_def, runT_val, runT_rd, runT_wr, runT_new, runT_mv, ex, put_some, put_none, ev_t, ev_c, argF_zero, argF_succ, set_g, set_n, cells_v, cells_sl, cells_agg, cells_own, cells_ptr, cells_clo, cells_eptr, cells_mp, putc, exBslice, lfill, exField, exIdxV, exIdxP, exBox, exAlloc, exLoad, exStore, exFieldA, exIdxA, exLen, exPick, exUn, exBeq, exMM, exSeq, seqGo, exExt, binV, intOp, subc, AV.solid, S0, encI, encB, encIs, h0I, hg0, hb]
        exact fz_none hmo _
      · have hb : (far[0] == -1) = false := by simp [hno]
        have hmo : markOk ⟨(sg : Int), next, fin⟩ = true := hok.mpr (by omega)
        have hw1 : IntKind.i64.wrap (far[0] - 1) = far[0] - 1 := wrap_in _ (by omega)
        obtain ⟨p0, hp0⟩ := mark_first R hev' hmo
        have hpf := markP_first ⟨p0, hp0⟩
        have hS := hS0 hmo
        have hSl : (markS ⟨(sg : Int), next, fin⟩).length ≤ 100000 := by rw [hS, markFrom_length]; omega
        simp [AW_seq, AW_reg, AW_regD, AW_block, AW_cond, AW_skip, AW_exit, AW_ret, AW_scp, condR_true, condR_false, AThen_normal, AThen_ret, AThen_exit, ABlock_normal, ABlock_ret, ABlock_exit, AScope_normal, AScope_ret, AScope_exit, RetK_ret, RetK_normal, retAV_one, retAV_two, retAV_three, retAV_nil, RG_nil, RG_op, RG_guard, gdR_tt, gdR_ff, gdR_tf, gdR_ft, gdR_un, RG_call, callQ_clo, contK_ap, opR_some, RD_nil, RD_op0, RD_op1, opD0_some, opD1_some, RD_call, callQD_clo, RD_guard, gdD_tt, gdD_ff, gdD_tf, gdD_ft, gdD_un, psh_nil, psh_cons, Apt_nil, Apt_nilT, Apt_true, Apt_false, Dis_def, runT_val, runT_rd, runT_wr, runT_new, runT_mv, ex, put_some, put_none, ev_t, ev_c, argF_zero, argF_succ, set_g, set_n, cells_v, cells_sl, cells_agg, cells_own, cells_ptr, cells_clo, cells_eptr, cells_mp, putc, exBslice, lfill, exField, exIdxV, exIdxP, exBox, exAlloc, exLoad, exStore, exFieldA, exIdxA, exLen, exPick, exUn, exBeq, exMM, exSeq, seqGo, exExt, binV, intOp, subc, AV.solid, S0, encI, encB, encIs, h0I, hg0, hb, hw1, hmo]
        refine mk_left Hs Hc R hev' (far := far) fo (tot := markS ⟨(sg : Int), next, fin⟩) hSl (rd far 0).toNat ⟨.sl true [], .sl true [.v (.int .i64 0)], [], [0], ⟨?_, ?_, ?_, ?_, ?_, ?_⟩, ⟨?_, ?_, ?_, ?_, ?_, ?_, ?_, ?_⟩, hat0 (by omega), by simp, by rw [hS]; rfl⟩ (fun f' S' v2 va at_ kg ks => ?_)
        · simp [put_some]
        · simp [put_some]
        · simp [put_some]
        · simp [put_some, encIs]
        · simp [put_some]
        · simp [put_some, encI]; omega
        · simp [set_g, encDet, encI]
        · simp [set_g, encGr]
        · simp
        · exact .nil
        · simp [AV.ids]
        · exact .inl rfl
        · simp [AV.ids]
        · simp [AV.ids]
        · simp only [AThen_normal]
          refine mk_end (by omega) (fun p => hw _ p (by omega)) (fun p => ha _ ?_) hpf kg.e1 kg.e2 ks.g0 ks.v
          unfold Len writeS
          split
          · rw [wrL_length]; omega
          · simp
    · have hev' : sg % 2 = 1 := by omega
      rw [hev'] at ha1
      have hmo : markOk ⟨(sg : Int), next, fin⟩ = false := by
        unfold markOk
        rw [decide_eq_false (by simp only; omega)]; simp
      simp [AW_seq, AW_reg, AW_regD, AW_block, AW_cond, AW_skip, AW_exit, AW_ret, AW_scp, condR_true, condR_false, AThen_normal, AThen_ret, AThen_exit, ABlock_normal, ABlock_ret, ABlock_exit, AScope_normal, AScope_ret, AScope_exit, RetK_ret, RetK_normal, retAV_one, retAV_two, retAV_three, retAV_nil, RG_nil, RG_op, RG_guard, gdR_tt, gdR_ff, gdR_tf, gdR_ft, gdR_un, RG_call, callQ_clo, contK_ap, opR_some, RD_nil, RD_op0, RD_op1, opD0_some, opD1_some, RD_call, callQD_clo, RD_guard, gdD_tt, gdD_ff, gdD_tf, gdD_ft, gdD_un, psh_nil, psh_cons, Apt_nil, Apt_nilT, Apt_true, Apt_false, Dis_def, runT_val, runT_rd, runT_wr, runT_new, runT_mv, ex, put_some, put_none, ev_t, ev_c, argF_zero, argF_succ, set_g, set_n, cells_v, cells_sl, cells_agg, cells_own, cells_ptr, cells_clo, cells_eptr, cells_mp, putc, exBslice, lfill, exField, exIdxV, exIdxP, exBox, exAlloc, exLoad, exStore, exFieldA, exIdxA, exLen, exPick, exUn, exBeq, exMM, exSeq, seqGo, exExt, binV, intOp, subc, AV.solid, S0, encI, encB, c_path_Marked, encDet]
      refine CallR.pure hr (cl_cons (closed_Det _) cl_nil) (closed_B _) ?_
      simp [AW_seq, AW_reg, AW_regD, AW_block, AW_cond, AW_skip, AW_exit, AW_ret, AW_scp, condR_true, condR_false, AThen_normal, AThen_ret, AThen_exit, ABlock_normal, ABlock_ret, ABlock_exit, AScope_normal, AScope_ret, AScope_exit, RetK_ret, RetK_normal, retAV_one, retAV_two, retAV_three, retAV_nil, RG_nil, RG_op, RG_guard, gdR_tt, gdR_ff, gdR_tf, gdR_ft, gdR_un, RG_call, callQ_clo, contK_ap, opR_some, RD_nil, RD_op0, RD_op1, opD0_some, opD1_some, RD_call, callQD_clo, RD_guard, gdD_tt, gdD_ff, gdD_tf, gdD_ft, gdD_un, psh_nil, psh_cons, Apt_nil, Apt_nilT, Apt_true, Apt_false, Dis_def, runT_val, runT_rd, runT_wr, runT_new, runT_mv, ex, put_some, put_none, ev_t, ev_c, argF_zero, argF_succ, set_g, set_n, cells_v, cells_sl, cells_agg, cells_own, cells_ptr, cells_clo, cells_eptr, cells_mp, putc, exBslice, lfill, exField, exIdxV, exIdxP, exBox, exAlloc, exLoad, exStore, exFieldA, exIdxA, exLen, exPick, exUn, exBeq, exMM, exSeq, seqGo, exExt, binV, intOp, subc, AV.solid, S0, encI, encB, hR, encDet, ha1]
      exact fz_none hmo _
  · have hmo : markOk d = false := by unfold markOk; simp [hR]
    simp [AW_seq, AW_reg, AW_regD, AW_block, AW_cond, AW_skip, AW_exit, AW_ret, AW_scp, condR_true, condR_false, AThen_normal, AThen_ret, AThen_exit, ABlock_normal, ABlock_ret, ABlock_exit, AScope_normal, AScope_ret, AScope_exit, RetK_ret, RetK_normal, retAV_one, retAV_two, retAV_three, retAV_nil, RG_nil, RG_op, RG_guard, gdR_tt, gdR_ff, gdR_tf, gdR_ft, gdR_un, RG_call, callQ_clo, contK_ap, opR_some, RD_nil, RD_op0, RD_op1, opD0_some, opD1_some, RD_call, callQD_clo, RD_guard, gdD_tt, gdD_ff, gdD_tf, gdD_ft, gdD_un, psh_nil, psh_cons, Apt_nil, Apt_nilT, Apt_true, Apt_false, Dis_def, runT_val, runT_rd, runT_wr, runT_new, runT_mv, ex, put_some, put_none, ev_t, ev_c, argF_zero, argF_succ, set_g, set_n, cells_v, cells_sl, cells_agg, cells_own, cells_ptr, cells_clo, cells_eptr, cells_mp, putc, exBslice, lfill, exField, exIdxV, exIdxP, exBox, exAlloc, exLoad, exStore, exFieldA, exIdxA, exLen, exPick, exUn, exBeq, exMM, exSeq, seqGo, exExt, binV, intOp, subc, AV.solid, S0, encI, encB, c_path_Marked, encDet]
    refine CallR.pure hr (cl_cons (closed_Det _) cl_nil) (closed_B _) ?_
    simp [AW_seq, AW_reg, AW_regD, AW_block, AW_cond, AW_skip, AW_exit, AW_ret, AW_scp, condR_true, condR_false, AThen_normal, AThen_ret, AThen_exit, ABlock_normal, ABlock_ret, ABlock_exit, AScope_normal, AScope_ret, AScope_exit, RetK_ret, RetK_normal, retAV_one, retAV_two, retAV_three, retAV_nil, RG_nil, RG_op, RG_guard, gdR_tt, gdR_ff, gdR_tf, gdR_ft, gdR_un, RG_call, callQ_clo, contK_ap, opR_some, RD_nil, RD_op0, RD_op1, opD0_some, opD1_some, RD_call, callQD_clo, RD_guard, gdD_tt, gdD_ff, gdD_tf, gdD_ft, gdD_un, psh_nil, psh_cons, Apt_nil, Apt_nilT, Apt_true, Apt_false, Dis_def, runT_val, runT_rd, runT_wr, runT_new, runT_mv, ex, put_some, put_none, ev_t, ev_c, argF_zero, argF_succ, set_g, set_n, cells_v, cells_sl, cells_agg, cells_own, cells_ptr, cells_clo, cells_eptr, cells_mp, putc, exBslice, lfill, exField, exIdxV, exIdxP, exBox, exAlloc, exLoad, exStore, exFieldA, exIdxA, exLen, exPick, exUn, exBeq, exMM, exSeq, seqGo, exExt, binV, intOp, subc, AV.solid, S0, encI, encB, hR]
    exact fz_none hmo _
end Go.Rf
