import Derived.Test.YtnlhbognechhcaaRfQD
/- Own work: NetJoins (walk of the law). -/
set_option linter.unusedVariables false
set_option linter.unusedSimpArgs false
namespace Go.Rf
open Go.RowKit
def c_lj_b (f_net_Accepts : FuncId) : AC :=
  (.reg (some []) [
      ⟨(some 78), .mv (.t 15), none, none⟩,
      ⟨(some 79), .mv (.t 78), none, none⟩,
      ⟨(some 80), .load (some 4) (.t 7), (some (79, false)), none⟩,
      ⟨(some 81), .mv (.t 2), (some (79, false)), none⟩,
      ⟨(some 82), .mv (.t 16), (some (79, false)), none⟩,
      ⟨(some 83), .slc 1 (.t 81) none (some (.t 82)), (some (79, false)), none⟩,
      ⟨(some 84), .mv (.c .junk), (some (79, false)), (some ((.c (.clo f_net_Accepts [] [])), [(.t 80), (.t 83)]))⟩,
      ⟨(some 85), .mv (.t 84), (some (79, false)), none⟩,
      ⟨(some 86), .load (some 4) (.t 9), (some (85, true)), none⟩,
      ⟨(some 87), .mv (.t 2), (some (85, true)), none⟩,
      ⟨(some 88), .mv (.t 16), (some (85, true)), none⟩,
      ⟨(some 89), .slc 1 (.t 87) (some (.t 88)) none, (some (85, true)), none⟩,
      ⟨(some 90), .mv (.c .junk), (some (85, true)), (some ((.c (.clo f_net_Accepts [] [])), [(.t 86), (.t 89)]))⟩,
      ⟨(some 91), .pick (.t 85) (.t 90) (.c (.v (.bool false))), (some (79, false)), none⟩,
      ⟨(some 92), .pick (.t 79) (.c (.v (.bool true))) (.t 91), none, none⟩,
      ⟨(some 15), .mv (.t 92), none, none⟩])
def c_lj_in (f_net_Accepts : FuncId) : AC :=
  (.loop (.seq (.seq (.reg none [
     ⟨(some 72), .mv (.t 16), none, none⟩,
     ⟨(some 73), .mv (.t 2), none, none⟩,
     ⟨(some 74), .len (.t 73), none, none⟩,
     ⟨(some 75), .bin .leq (.t 72) (.t 74), none, none⟩])
    (.cond (.t 75) .skip (.exit 0)))
    (.seq (.block 1 (c_lj_b f_net_Accepts))
    (.reg none [
     ⟨(some 76), .mv (.t 16), none, none⟩,
     ⟨(some 77), .bin .add (.t 76) (.c (.v (.int .i64 1))), none, none⟩,
     ⟨(some 16), .mv (.t 77), none, none⟩]))))
def c_lj_end (f_net_Accepts : FuncId) : AC :=
  (.reg (some []) [
   ⟨(some 93), .load (some 4) (.t 11), none, none⟩,
   ⟨(some 94), .mv (.t 2), none, none⟩,
   ⟨(some 95), .mv (.c .junk), none, (some ((.c (.clo f_net_Accepts [] [])), [(.t 93), (.t 94)]))⟩,
   ⟨(some 96), .load (some 4) (.t 7), none, none⟩,
   ⟨(some 97), .mv (.t 2), none, none⟩,
   ⟨(some 98), .mv (.c .junk), none, (some ((.c (.clo f_net_Accepts [] [])), [(.t 96), (.t 97)]))⟩,
   ⟨(some 99), .mv (.t 98), none, none⟩,
   ⟨(some 100), .load (some 4) (.t 9), (some (99, false)), none⟩,
   ⟨(some 101), .mv (.t 2), (some (99, false)), none⟩,
   ⟨(some 102), .mv (.c .junk), (some (99, false)), (some ((.c (.clo f_net_Accepts [] [])), [(.t 100), (.t 101)]))⟩,
   ⟨(some 103), .pick (.t 99) (.c (.v (.bool true))) (.t 102), none, none⟩,
   ⟨(some 104), .beq false (.t 95) (.t 103), none, none⟩,
   ⟨(some 105), .mv (.t 104), none, none⟩,
   ⟨(some 106), .load (some 4) (.t 13), (some (105, true)), none⟩,
   ⟨(some 107), .mv (.t 2), (some (105, true)), none⟩,
   ⟨(some 108), .mv (.c .junk), (some (105, true)), (some ((.c (.clo f_net_Accepts [] [])), [(.t 106), (.t 107)]))⟩,
   ⟨(some 109), .mv (.t 15), (some (105, true)), none⟩,
   ⟨(some 110), .beq false (.t 108) (.t 109), (some (105, true)), none⟩,
   ⟨(some 111), .pick (.t 105) (.t 110) (.c (.v (.bool false))), none, none⟩,
   ⟨(some 112), .mv (.t 111), none, none⟩,
   ⟨(some 113), .fieldA 1 (.t 11), (some (112, true)), none⟩,
   ⟨(some 114), .load none (.t 113), (some (112, true)), none⟩,
   ⟨(some 115), .len (.t 114), (some (112, true)), none⟩,
   ⟨(some 116), .fieldA 1 (.t 7), (some (112, true)), none⟩,
   ⟨(some 117), .load none (.t 116), (some (112, true)), none⟩,
   ⟨(some 118), .len (.t 117), (some (112, true)), none⟩,
   ⟨(some 119), .fieldA 1 (.t 9), (some (112, true)), none⟩,
   ⟨(some 120), .load none (.t 119), (some (112, true)), none⟩,
   ⟨(some 121), .len (.t 120), (some (112, true)), none⟩,
   ⟨(some 122), .bin .add (.t 118) (.t 121), (some (112, true)), none⟩,
   ⟨(some 123), .bin .sub (.t 122) (.c (.v (.int .i64 1))), (some (112, true)), none⟩,
   ⟨(some 124), .bin .eql (.t 115) (.t 123), (some (112, true)), none⟩,
   ⟨(some 125), .pick (.t 112) (.t 124) (.c (.v (.bool false))), none, none⟩,
   ⟨(some 126), .mv (.t 125), none, none⟩,
   ⟨(some 127), .fieldA 1 (.t 13), (some (126, true)), none⟩,
   ⟨(some 128), .load none (.t 127), (some (126, true)), none⟩,
   ⟨(some 129), .len (.t 128), (some (126, true)), none⟩,
   ⟨(some 130), .fieldA 1 (.t 11), (some (126, true)), none⟩,
   ⟨(some 131), .load none (.t 130), (some (126, true)), none⟩,
   ⟨(some 132), .len (.t 131), (some (126, true)), none⟩,
   ⟨(some 133), .bin .eql (.t 129) (.t 132), (some (126, true)), none⟩,
   ⟨(some 134), .pick (.t 126) (.t 133) (.c (.v (.bool false))), none, none⟩,
   ⟨(some 6), .mv (.t 134), none, none⟩])
def c_caesuralaw13_NetJoins (f_caesuralaw13_alive f_caesuraref08_Weight f_net_Of f_net_Accepts : FuncId) : AC :=
  (.seq (.reg none [
   ⟨(some 3), .box 4 (.t 0), none, none⟩,
   ⟨(some 4), .box 4 (.t 1), none, none⟩,
   ⟨(some 6), .mv (.c (.v (.bool false))), none, none⟩])
  (.seq (.seq (.reg none [
   ⟨(some 17), .mv (.c .junk), none, (some ((.c (.clo f_caesuralaw13_alive [] [])), []))⟩,
   ⟨(some 18), .un .not (.t 17), none, none⟩])
  (.cond (.t 18) (.seq (.reg none [
    ⟨(some 6), .mv (.c (.v (.bool false))), none, none⟩])
   .ret) .skip))
  (.seq (.seq (.reg none [
   ⟨(some 19), .load (some 4) (.t 3), none, none⟩,
   ⟨(some 20), .mv (.c .junk), none, (some ((.c (.clo f_caesuraref08_Weight [] [])), [(.t 19), (.c (.v (.int .i64 0)))]))⟩,
   ⟨(some 21), .bin .gtr (.t 20) (.c (.v (.int .i64 140))), none, none⟩,
   ⟨(some 22), .mv (.t 21), none, none⟩,
   ⟨(some 23), .load (some 4) (.t 4), (some (22, false)), none⟩,
   ⟨(some 24), .mv (.c .junk), (some (22, false)), (some ((.c (.clo f_caesuraref08_Weight [] [])), [(.t 23), (.c (.v (.int .i64 0)))]))⟩,
   ⟨(some 25), .bin .gtr (.t 24) (.c (.v (.int .i64 140))), (some (22, false)), none⟩,
   ⟨(some 26), .pick (.t 22) (.c (.v (.bool true))) (.t 25), none, none⟩,
   ⟨(some 27), .mv (.t 26), none, none⟩,
   ⟨(some 28), .mv (.t 2), (some (27, false)), none⟩,
   ⟨(some 29), .len (.t 28), (some (27, false)), none⟩,
   ⟨(some 30), .bin .gtr (.t 29) (.c (.v (.int .i64 10))), (some (27, false)), none⟩,
   ⟨(some 31), .pick (.t 27) (.c (.v (.bool true))) (.t 30), none, none⟩])
  (.cond (.t 31) (.seq (.reg none [
    ⟨(some 6), .mv (.c (.v (.bool true))), none, none⟩])
   .ret) .skip))
  (.seq (.reg none [
   ⟨(some 33), .load (some 4) (.t 3), none, none⟩,
   ⟨(some 34), .mv (.c .junk), none, (some ((.c (.clo f_net_Of [] [])), [(.t 33), (.c (.v (.int .i64 3)))]))⟩,
   ⟨(some 32), .mv (.t 34), none, none⟩,
   ⟨(some 35), .ext 0 (.t 32), none, none⟩,
   ⟨(some 36), .ext 1 (.t 32), none, none⟩,
   ⟨(some 7), .alloc (.agg [(.v (.int .i64 0)), (.sl true []), (.sl true []), (.sl true [])]) 4, none, none⟩,
   ⟨none, .store 4 (.t 7) (.t 35), none, none⟩,
   ⟨(some 8), .mv (.t 36), none, none⟩])
  (.seq (.reg none [
   ⟨(some 38), .load (some 4) (.t 4), none, none⟩,
   ⟨(some 39), .mv (.c .junk), none, (some ((.c (.clo f_net_Of [] [])), [(.t 38), (.c (.v (.int .i64 3)))]))⟩,
   ⟨(some 37), .mv (.t 39), none, none⟩,
   ⟨(some 40), .ext 0 (.t 37), none, none⟩,
   ⟨(some 41), .ext 1 (.t 37), none, none⟩,
   ⟨(some 9), .alloc (.agg [(.v (.int .i64 0)), (.sl true []), (.sl true []), (.sl true [])]) 4, none, none⟩,
   ⟨none, .store 4 (.t 9) (.t 40), none, none⟩,
   ⟨(some 10), .mv (.t 41), none, none⟩])
  (.seq (.reg none [
   ⟨(some 43), .load (some 4) (.t 3), none, none⟩,
   ⟨(some 44), .load (some 4) (.t 4), none, none⟩,
   ⟨(some 45), .bslice 4 2 (.agg [(.v (.int .i64 0)), (.sl true []), (.sl true []), (.sl true [])]) [(0, (.t 43)), (1, (.t 44))], none, none⟩,
   ⟨(some 46), .build (.agg [(.v (.int .i64 0)), (.sl true []), (.sl true []), (.sl true [])]) [(0, 1), (3, 1)] [(0, (.c (.v (.int .i64 4)))), (3, (.t 45))], none, none⟩,
   ⟨(some 47), .mv (.c .junk), none, (some ((.c (.clo f_net_Of [] [])), [(.t 46), (.c (.v (.int .i64 3)))]))⟩,
   ⟨(some 42), .mv (.t 47), none, none⟩,
   ⟨(some 48), .ext 0 (.t 42), none, none⟩,
   ⟨(some 49), .ext 1 (.t 42), none, none⟩,
   ⟨(some 11), .alloc (.agg [(.v (.int .i64 0)), (.sl true []), (.sl true []), (.sl true [])]) 4, none, none⟩,
   ⟨none, .store 4 (.t 11) (.t 48), none, none⟩,
   ⟨(some 12), .mv (.t 49), none, none⟩])
  (.seq (.reg none [
   ⟨(some 51), .load (some 4) (.t 3), none, none⟩,
   ⟨(some 52), .load (some 4) (.t 4), none, none⟩,
   ⟨(some 53), .bslice 4 2 (.agg [(.v (.int .i64 0)), (.sl true []), (.sl true []), (.sl true [])]) [(0, (.t 51)), (1, (.t 52))], none, none⟩,
   ⟨(some 54), .build (.agg [(.v (.int .i64 0)), (.sl true []), (.sl true []), (.sl true [])]) [(0, 1), (3, 1)] [(0, (.c (.v (.int .i64 3)))), (3, (.t 53))], none, none⟩,
   ⟨(some 55), .mv (.c .junk), none, (some ((.c (.clo f_net_Of [] [])), [(.t 54), (.c (.v (.int .i64 3)))]))⟩,
   ⟨(some 50), .mv (.t 55), none, none⟩,
   ⟨(some 56), .ext 0 (.t 50), none, none⟩,
   ⟨(some 57), .ext 1 (.t 50), none, none⟩,
   ⟨(some 13), .alloc (.agg [(.v (.int .i64 0)), (.sl true []), (.sl true []), (.sl true [])]) 4, none, none⟩,
   ⟨none, .store 4 (.t 13) (.t 56), none, none⟩,
   ⟨(some 14), .mv (.t 57), none, none⟩])
  (.seq (.seq (.reg none [
   ⟨(some 58), .mv (.t 8), none, none⟩,
   ⟨(some 59), .bin .neq (.t 58) (.c (.v (.int .i64 0))), none, none⟩,
   ⟨(some 60), .mv (.t 59), none, none⟩,
   ⟨(some 61), .mv (.t 10), (some (60, false)), none⟩,
   ⟨(some 62), .bin .neq (.t 61) (.c (.v (.int .i64 0))), (some (60, false)), none⟩,
   ⟨(some 63), .pick (.t 60) (.c (.v (.bool true))) (.t 62), none, none⟩,
   ⟨(some 64), .mv (.t 63), none, none⟩,
   ⟨(some 65), .mv (.t 12), (some (64, false)), none⟩,
   ⟨(some 66), .bin .neq (.t 65) (.c (.v (.int .i64 0))), (some (64, false)), none⟩,
   ⟨(some 67), .pick (.t 64) (.c (.v (.bool true))) (.t 66), none, none⟩,
   ⟨(some 68), .mv (.t 67), none, none⟩,
   ⟨(some 69), .mv (.t 14), (some (68, false)), none⟩,
   ⟨(some 70), .bin .neq (.t 69) (.c (.v (.int .i64 0))), (some (68, false)), none⟩,
   ⟨(some 71), .pick (.t 68) (.c (.v (.bool true))) (.t 70), none, none⟩])
  (.cond (.t 71) (.seq (.reg none [
    ⟨(some 6), .mv (.c (.v (.bool false))), none, none⟩])
   .ret) .skip))
  (.seq (.reg none [
   ⟨(some 15), .mv (.c (.v (.bool false))), none, none⟩])
  (.seq (.seq (.reg none [
   ⟨(some 16), .mv (.c (.v (.int .i64 0))), none, none⟩])
  (.block 0 (c_lj_in f_net_Accepts)))
  (.seq (c_lj_end f_net_Accepts)
  .ret)))))))))))
def splN (a b : Net) (l : List Int) (k : Nat) : Bool := (List.range k).any fun j => accN a (l.take j) && accN b (l.drop j)
theorem splN_succ (a b : Net) (l : List Int) (k : Nat) : splN a b l (k + 1) = (splN a b l k || (accN a (l.take k) && accN b (l.drop k))) := by
  unfold splN
  rw [List.range_succ, List.any_append]; simp
theorem slcT_hi {S : St} {nid : Nat} {l : List Int} {k : IntKind} {i : Int} (h0 : 0 ≤ i) (h : i ≤ l.length) : (exSlc 1 (encIs l) none (some (.v (.int k i)))).run S nid = some (encIs (l.take i.toNat), S) := by
  have hl : i.toNat ≤ l.length := by omega
  have hc : ∀ y ∈ l.map encI, y.cells.length = 1 := cells_I l
  simp only [encIs, exSlc, bnd, Eff.run_val, Option.bind_some]
  rw [if_pos h0]
  simp only [Option.bind_some, List.length_map]
  rw [if_pos ⟨Nat.zero_le _, hl, hc⟩]
  simp
theorem slcT_lo {S : St} {nid : Nat} {l : List Int} {k : IntKind} {i : Int} (h0 : 0 ≤ i) (h : i ≤ l.length) : (exSlc 1 (encIs l) (some (.v (.int k i))) none).run S nid = some (encIs (l.drop i.toNat), S) := by
  have hl : i.toNat ≤ l.length := by omega
  have hc : ∀ y ∈ l.map encI, y.cells.length = 1 := cells_I l
  simp only [encIs, exSlc, bnd, Eff.run_val, Option.bind_some]
  rw [if_pos h0]
  simp only [Option.bind_some, List.length_map]
  rw [if_pos ⟨hl, Nat.le_refl _, hc⟩]
  simp [List.take_of_length_le]
def ljI (a b : Net) (l : List Int) (_ : Nat) (_ : Unit) : Prop := True
def ljA (a b : Net) (l : List Int) (k : Nat) (_ : Unit) : List (Nat × AV) := [(2, encIs l), (7, .ptr 0 0 0), (9, .ptr 1 0 0), (11, .ptr 2 0 0), (13, .ptr 3 0 0), (15, encB (splN a b l k)), (16, encI k)]
def ljG (a b c d : Net) (_ : Nat) (_ : Unit) : List (Nat × Option Blk) := [(0, some (.arr 4 [encNet a])), (1, some (.arr 4 [encNet b])), (2, some (.arr 4 [encNet c])), (3, some (.arr 4 [encNet d]))]
theorem NetJoins_body {P : Program} {fal fw fo fa : FuncId} (p q : Pat) (hp : goodP p) (hq : goodP q) (l : List Int) (hl : Len l) (hal : PureC P fal [] (encB true)) (hw : ∀ x, goodP x → PureC P fw [encPat x, encI 0] (encI (wgtP x 0)))
    (hof : ∀ x, PatS x → PureC P fo [encPat x, encI 3] (encNE (netRes x 3))) (hacc : ∀ x, cntP x ≤ 300 → ∀ l : List Int, l.length ≤ 10 → PureC P fa [encNet (netOf x 3), encIs l] (encB (accN (netOf x 3) l))) :
    AWb P 0 (c_caesuralaw13_NetJoins fal fw fo fa) (RetK [6] (FzK (encB true))) (argF [encPat p, encPat q, encIs l]) S0 := by
  unfold Len at hl
  have w1 := hw p hp
  have w2 := hw q hq
  have hcp := closed_Pat p
  have hcq := closed_Pat q
  obtain ⟨kp, sp, gp, ksp⟩ := p
  obtain ⟨kq, sq, gq, ksq⟩ := q
  have ep := encPat_eq kp sp gp ksp
  have eq := encPat_eq kq sq gq ksq
  rw [ep] at w1 hcp
  rw [eq] at w2 hcq
  simp only [encI] at w1 w2 hcp hcq
  simp [AWb_seq, Z0m, Z0n, Z0j, Z0k, Z0r, Z0l, Z0p, Z0q, Z0o, Z21, Z20, Z22, Z23, Z3d, Z3e, Z3a, vIdx, Z4x, Z4w, Z4y, vApp, Z4u, Z3u, Z11, Z10, Z0z, Z0x, Z0w, Z0y, Z17, Z16, Z15, Z13, Z12, Z14, Z2c, Z2d, Z2a, Z2n, Z31, Z30, Z07, Z08, Z06, Z01, Z02, Z00, Z04, Z05, Z03, Z1z, Z1y, Z46, Z48, Z47, Z45, Z1n, Z1o, Z1m, Z3n, Z3k, Z3m, Z3l, Z3o, Z1l, Z29, Z32, Z3x, Z1i, Z1j, Z1k, Z3v, Z3w, Z1g, Z28, Z1h, Z3i, Z3f, Z3h, Z3g, Z3j, Z41, Z40, Z0t, Z0u, Z0v, Z0s, Z1f, Z4c, Z4b, Z4d, Z4a, Z49, ex, Z43, Z42, ev_t, ev_c, Z27, Z26, Z4e, Z4f, Z2m, Z2l, Z2f, Z2j, Z2k, Z2g, Z2h, Z2i, putc, exBslice, lfill, exField, exIdxV, exIdxP, exBox, exAlloc, Z3b, Z3c, exStore, exFieldA, Z34, Z33, Z39, Z38, exPick, exUn, exBeq, exMM, exSeq, seqGo, exExt, binV, intOp, subc, Z4s, Z4r, Z4p, Z4q, Z4n, Z4l, Z4m, Z4o, Z4i, Z4j, Z4g, Z4t, S0, encI, encB, Z4k, Z2e, Z25, Z4h, Z2b, Z24, Z36, Z37, Z35, Z3s, Z3t, Z3r, Z3p, Z3q, idxT_Bs, c_caesuralaw13_NetJoins, ep, eq]
  refine CallR.pure hal cl_nil (Z2o _) ?_
  simp [AWb_seq, Z0m, Z0n, Z0j, Z0k, Z0r, Z0l, Z0p, Z0q, Z0o, Z21, Z20, Z22, Z23, Z3d, Z3e, Z3a, vIdx, Z4x, Z4w, Z4y, vApp, Z4u, Z3u, Z11, Z10, Z0z, Z0x, Z0w, Z0y, Z17, Z16, Z15, Z13, Z12, Z14, Z2c, Z2d, Z2a, Z2n, Z31, Z30, Z07, Z08, Z06, Z01, Z02, Z00, Z04, Z05, Z03, Z1z, Z1y, Z46, Z48, Z47, Z45, Z1n, Z1o, Z1m, Z3n, Z3k, Z3m, Z3l, Z3o, Z1l, Z29, Z32, Z3x, Z1i, Z1j, Z1k, Z3v, Z3w, Z1g, Z28, Z1h, Z3i, Z3f, Z3h, Z3g, Z3j, Z41, Z40, Z0t, Z0u, Z0v, Z0s, Z1f, Z4c, Z4b, Z4d, Z4a, Z49, ex, Z43, Z42, ev_t, ev_c, Z27, Z26, Z4e, Z4f, Z2m, Z2l, Z2f, Z2j, Z2k, Z2g, Z2h, Z2i, putc, exBslice, lfill, exField, exIdxV, exIdxP, exBox, exAlloc, Z3b, Z3c, exStore, exFieldA, Z34, Z33, Z39, Z38, exPick, exUn, exBeq, exMM, exSeq, seqGo, exExt, binV, intOp, subc, Z4s, Z4r, Z4p, Z4q, Z4n, Z4l, Z4m, Z4o, Z4i, Z4j, Z4g, Z4t, S0, encI, encB, Z4k, Z2e, Z25, Z4h, Z2b, Z24, Z36, Z37, Z35, Z3s, Z3t, Z3r, Z3p, Z3q, idxT_Bs]
  refine CallR.pure w1 (cl_cons hcp (cl_cons (Z2r _) cl_nil)) (Z2r _) ?_
  by_cases h1 : 140 < wgtP (.mk kp sp gp ksp) 0
  · simp [AWb_seq, Z0m, Z0n, Z0j, Z0k, Z0r, Z0l, Z0p, Z0q, Z0o, Z21, Z20, Z22, Z23, Z3d, Z3e, Z3a, vIdx, Z4x, Z4w, Z4y, vApp, Z4u, Z3u, Z11, Z10, Z0z, Z0x, Z0w, Z0y, Z17, Z16, Z15, Z13, Z12, Z14, Z2c, Z2d, Z2a, Z2n, Z31, Z30, Z07, Z08, Z06, Z01, Z02, Z00, Z04, Z05, Z03, Z1z, Z1y, Z46, Z48, Z47, Z45, Z1n, Z1o, Z1m, Z3n, Z3k, Z3m, Z3l, Z3o, Z1l, Z29, Z32, Z3x, Z1i, Z1j, Z1k, Z3v, Z3w, Z1g, Z28, Z1h, Z3i, Z3f, Z3h, Z3g, Z3j, Z41, Z40, Z0t, Z0u, Z0v, Z0s, Z1f, Z4c, Z4b, Z4d, Z4a, Z49, ex, Z43, Z42, ev_t, ev_c, Z27, Z26, Z4e, Z4f, Z2m, Z2l, Z2f, Z2j, Z2k, Z2g, Z2h, Z2i, putc, exBslice, lfill, exField, exIdxV, exIdxP, exBox, exAlloc, Z3b, Z3c, exStore, exFieldA, Z34, Z33, Z39, Z38, exPick, exUn, exBeq, exMM, exSeq, seqGo, exExt, binV, intOp, subc, Z4s, Z4r, Z4p, Z4q, Z4n, Z4l, Z4m, Z4o, Z4i, Z4j, Z4g, Z4t, S0, encI, encB, Z4k, Z2e, Z25, Z4h, Z2b, Z24, Z36, Z37, Z35, Z3s, Z3t, Z3r, Z3p, Z3q, idxT_Bs, h1]
    exact FzK_B true _
  simp [AWb_seq, Z0m, Z0n, Z0j, Z0k, Z0r, Z0l, Z0p, Z0q, Z0o, Z21, Z20, Z22, Z23, Z3d, Z3e, Z3a, vIdx, Z4x, Z4w, Z4y, vApp, Z4u, Z3u, Z11, Z10, Z0z, Z0x, Z0w, Z0y, Z17, Z16, Z15, Z13, Z12, Z14, Z2c, Z2d, Z2a, Z2n, Z31, Z30, Z07, Z08, Z06, Z01, Z02, Z00, Z04, Z05, Z03, Z1z, Z1y, Z46, Z48, Z47, Z45, Z1n, Z1o, Z1m, Z3n, Z3k, Z3m, Z3l, Z3o, Z1l, Z29, Z32, Z3x, Z1i, Z1j, Z1k, Z3v, Z3w, Z1g, Z28, Z1h, Z3i, Z3f, Z3h, Z3g, Z3j, Z41, Z40, Z0t, Z0u, Z0v, Z0s, Z1f, Z4c, Z4b, Z4d, Z4a, Z49, ex, Z43, Z42, ev_t, ev_c, Z27, Z26, Z4e, Z4f, Z2m, Z2l, Z2f, Z2j, Z2k, Z2g, Z2h, Z2i, putc, exBslice, lfill, exField, exIdxV, exIdxP, exBox, exAlloc, Z3b, Z3c, exStore, exFieldA, Z34, Z33, Z39, Z38, exPick, exUn, exBeq, exMM, exSeq, seqGo, exExt, binV, intOp, subc, Z4s, Z4r, Z4p, Z4q, Z4n, Z4l, Z4m, Z4o, Z4i, Z4j, Z4g, Z4t, S0, encI, encB, Z4k, Z2e, Z25, Z4h, Z2b, Z24, Z36, Z37, Z35, Z3s, Z3t, Z3r, Z3p, Z3q, idxT_Bs, h1]
  refine CallR.pure w2 (cl_cons hcq (cl_cons (Z2r _) cl_nil)) (Z2r _) ?_
  by_cases h2 : 140 < wgtP (.mk kq sq gq ksq) 0
  · simp [AWb_seq, Z0m, Z0n, Z0j, Z0k, Z0r, Z0l, Z0p, Z0q, Z0o, Z21, Z20, Z22, Z23, Z3d, Z3e, Z3a, vIdx, Z4x, Z4w, Z4y, vApp, Z4u, Z3u, Z11, Z10, Z0z, Z0x, Z0w, Z0y, Z17, Z16, Z15, Z13, Z12, Z14, Z2c, Z2d, Z2a, Z2n, Z31, Z30, Z07, Z08, Z06, Z01, Z02, Z00, Z04, Z05, Z03, Z1z, Z1y, Z46, Z48, Z47, Z45, Z1n, Z1o, Z1m, Z3n, Z3k, Z3m, Z3l, Z3o, Z1l, Z29, Z32, Z3x, Z1i, Z1j, Z1k, Z3v, Z3w, Z1g, Z28, Z1h, Z3i, Z3f, Z3h, Z3g, Z3j, Z41, Z40, Z0t, Z0u, Z0v, Z0s, Z1f, Z4c, Z4b, Z4d, Z4a, Z49, ex, Z43, Z42, ev_t, ev_c, Z27, Z26, Z4e, Z4f, Z2m, Z2l, Z2f, Z2j, Z2k, Z2g, Z2h, Z2i, putc, exBslice, lfill, exField, exIdxV, exIdxP, exBox, exAlloc, Z3b, Z3c, exStore, exFieldA, Z34, Z33, Z39, Z38, exPick, exUn, exBeq, exMM, exSeq, seqGo, exExt, binV, intOp, subc, Z4s, Z4r, Z4p, Z4q, Z4n, Z4l, Z4m, Z4o, Z4i, Z4j, Z4g, Z4t, S0, encI, encB, Z4k, Z2e, Z25, Z4h, Z2b, Z24, Z36, Z37, Z35, Z3s, Z3t, Z3r, Z3p, Z3q, idxT_Bs, h2]
    exact FzK_B true _
  by_cases h3 : 10 < (l.length : Int)
  · simp [AWb_seq, Z0m, Z0n, Z0j, Z0k, Z0r, Z0l, Z0p, Z0q, Z0o, Z21, Z20, Z22, Z23, Z3d, Z3e, Z3a, vIdx, Z4x, Z4w, Z4y, vApp, Z4u, Z3u, Z11, Z10, Z0z, Z0x, Z0w, Z0y, Z17, Z16, Z15, Z13, Z12, Z14, Z2c, Z2d, Z2a, Z2n, Z31, Z30, Z07, Z08, Z06, Z01, Z02, Z00, Z04, Z05, Z03, Z1z, Z1y, Z46, Z48, Z47, Z45, Z1n, Z1o, Z1m, Z3n, Z3k, Z3m, Z3l, Z3o, Z1l, Z29, Z32, Z3x, Z1i, Z1j, Z1k, Z3v, Z3w, Z1g, Z28, Z1h, Z3i, Z3f, Z3h, Z3g, Z3j, Z41, Z40, Z0t, Z0u, Z0v, Z0s, Z1f, Z4c, Z4b, Z4d, Z4a, Z49, ex, Z43, Z42, ev_t, ev_c, Z27, Z26, Z4e, Z4f, Z2m, Z2l, Z2f, Z2j, Z2k, Z2g, Z2h, Z2i, putc, exBslice, lfill, exField, exIdxV, exIdxP, exBox, exAlloc, Z3b, Z3c, exStore, exFieldA, Z34, Z33, Z39, Z38, exPick, exUn, exBeq, exMM, exSeq, seqGo, exExt, binV, intOp, subc, Z4s, Z4r, Z4p, Z4q, Z4n, Z4l, Z4m, Z4o, Z4i, Z4j, Z4g, Z4t, S0, encI, encB, Z4k, Z2e, Z25, Z4h, Z2b, Z24, Z36, Z37, Z35, Z3s, Z3t, Z3r, Z3p, Z3q, idxT_Bs, h2, h3]
    exact FzK_B true _
  have n1 := nd_wgt _ 0 hp (by omega) (by omega)
  have n2 := nd_wgt _ 0 hq (by omega) (by omega)
  have s1 := (wgtP_small _ 0 hp (by omega) (by omega)).1
  have s2 := (wgtP_small _ 0 hq (by omega) (by omega)).1
  have s3 : PatS (.mk 4 [] [] [.mk kp sp gp ksp, .mk kq sq gq ksq]) := by simp only [PatS, PatsS]; exact ⟨by simp, by simp, s1, s2, trivial⟩
  have s4 : PatS (.mk 3 [] [] [.mk kp sp gp ksp, .mk kq sq gq ksq]) := by simp only [PatS, PatsS]; exact ⟨by simp, by simp, s1, s2, trivial⟩
  have z (x : Pat) (h : (ndP x : Int) ≤ 300) : netRes x 3 = (netOf x 3, 0) := by
    rw [netRes, if_neg (by omega), if_neg]
    unfold szP; omega
  have n3 : (ndP (.mk 4 [] [] [.mk kp sp gp ksp, .mk kq sq gq ksq]) : Int) ≤ 300 := by simp only [ndP, ndL] at n1 n2 ⊢; push_cast at n1 n2 ⊢; omega
  have n4 : (ndP (.mk 3 [] [] [.mk kp sp gp ksp, .mk kq sq gq ksq]) : Int) ≤ 300 := by simp only [ndP, ndL] at n1 n2 ⊢; push_cast at n1 n2 ⊢; omega
  have c1 := cnt_nd (.mk kp sp gp ksp)
  have c2 := cnt_nd (.mk kq sq gq ksq)
  have c3 := cnt_nd (.mk 4 [] [] [.mk kp sp gp ksp, .mk kq sq gq ksq])
  have c4 := cnt_nd (.mk 3 [] [] [.mk kp sp gp ksp, .mk kq sq gq ksq])
  have co := cnt_or (.mk kp sp gp ksp) (.mk kq sq gq ksq)
  have cj := cnt_join (.mk kp sp gp ksp) (.mk kq sq gq ksq)
  have o1 := hof _ s1
  have o2 := hof _ s2
  have wp : WkL [.sl true [.agg [.v (.int .i64 kp), encRs sp, encIs gp, .sl false (ksp.map encPat)], .agg [.v (.int .i64 kq), encRs sq, encIs gq, .sl false (ksq.map encPat)]]] [.sl false [encPat (.mk kp sp gp ksp), encPat (.mk kq sq gq ksq)]] := by
    rw [ep, eq]; exact .cons (.sl' (.refl _)) .nil
  have wl (kk : Int) : WkL [.agg [.v (.int .i64 kk), .sl true [], .sl true [], .sl true [.agg [.v (.int .i64 kp), encRs sp, encIs gp, .sl false (ksp.map encPat)], .agg [.v (.int .i64 kq), encRs sq, encIs gq, .sl false (ksq.map encPat)]]], .v (.int .i64 3)] [encPat (.mk kk [] [] [.mk kp sp gp ksp, .mk kq sq gq ksq]), encI 3] := by
    rw [encPat_eq]
    refine .cons (.agg' (.cons (.refl _) (.cons (.sl' .nil) (.cons (.sl' .nil) ?_)))) (.cons (.refl _) .nil)
    simpa using wp
  have o3 := (hof _ s3).wk (wl 4)
  have o4 := (hof _ s4).wk (wl 3)
  rw [z _ (by omega)] at o1 o2 o3 o4
  rw [ep] at o1
  rw [eq] at o2
  have hA := hacc (.mk kp sp gp ksp) (by omega)
  have hB := hacc (.mk kq sq gq ksq) (by omega)
  have hC := hacc _ (show cntP (.mk 4 [] [] [.mk kp sp gp ksp, .mk kq sq gq ksq]) ≤ 300 by omega) l (by omega)
  have hD := hacc _ (show cntP (.mk 3 [] [] [.mk kp sp gp ksp, .mk kq sq gq ksq]) ≤ 300 by omega) l (by omega)
  have hor := net_or (p := .mk kp sp gp ksp) (q := .mk kq sq gq ksq) (sg := 3) (by omega) (by omega) (by omega) l
  have hjo := net_join (p := .mk kp sp gp ksp) (q := .mk kq sq gq ksq) (sg := 3) (by omega) (by omega) (by omega) l
  have b1 := (netOf_by (.mk kp sp gp ksp) 3).2.1
  have b2 := (netOf_by (.mk kq sq gq ksq) 3).2.1
  have b3 := (netOf_by (.mk 4 [] [] [.mk kp sp gp ksp, .mk kq sq gq ksq]) 3).2.1
  have b4 := (netOf_by (.mk 3 [] [] [.mk kp sp gp ksp, .mk kq sq gq ksq]) 3).2.1
  have hcl : ∀ kk, Closed (.agg [.v (.int .i64 kk), .sl true [], .sl true [], .sl true [.agg [.v (.int .i64 kp), encRs sp, encIs gp, .sl false (ksp.map encPat)], .agg [.v (.int .i64 kq), encRs sq, encIs gq, .sl false (ksq.map encPat)]]]) := fun kk =>
    .agg _ (cl_cons (.v _) (cl_cons (Z2w _) (cl_cons (Z2w _) (cl_cons (.sl _ _ (cl_cons hcp (cl_cons hcq cl_nil))) cl_nil))))
  generalize netOf (.mk kp sp gp ksp) 3 = a at *
  generalize netOf (.mk kq sq gq ksq) 3 = b at *
  generalize netOf (.mk 4 [] [] [.mk kp sp gp ksp, .mk kq sq gq ksq]) 3 = c at *
  generalize netOf (.mk 3 [] [] [.mk kp sp gp ksp, .mk kq sq gq ksq]) 3 = d at *
  simp only [encNE, encI] at o1 o2 o3 o4
  have hcn : ∀ n : Net, Closed (.tup [encNet n, .v (.int .i64 0)]) := fun n => .tup _ (cl_cons (closed_Net n) (cl_cons (.v _) cl_nil))
  simp [AWb_seq, Z0m, Z0n, Z0j, Z0k, Z0r, Z0l, Z0p, Z0q, Z0o, Z21, Z20, Z22, Z23, Z3d, Z3e, Z3a, vIdx, Z4x, Z4w, Z4y, vApp, Z4u, Z3u, Z11, Z10, Z0z, Z0x, Z0w, Z0y, Z17, Z16, Z15, Z13, Z12, Z14, Z2c, Z2d, Z2a, Z2n, Z31, Z30, Z07, Z08, Z06, Z01, Z02, Z00, Z04, Z05, Z03, Z1z, Z1y, Z46, Z48, Z47, Z45, Z1n, Z1o, Z1m, Z3n, Z3k, Z3m, Z3l, Z3o, Z1l, Z29, Z32, Z3x, Z1i, Z1j, Z1k, Z3v, Z3w, Z1g, Z28, Z1h, Z3i, Z3f, Z3h, Z3g, Z3j, Z41, Z40, Z0t, Z0u, Z0v, Z0s, Z1f, Z4c, Z4b, Z4d, Z4a, Z49, ex, Z43, Z42, ev_t, ev_c, Z27, Z26, Z4e, Z4f, Z2m, Z2l, Z2f, Z2j, Z2k, Z2g, Z2h, Z2i, putc, exBslice, lfill, exField, exIdxV, exIdxP, exBox, exAlloc, Z3b, Z3c, exStore, exFieldA, Z34, Z33, Z39, Z38, exPick, exUn, exBeq, exMM, exSeq, seqGo, exExt, binV, intOp, subc, Z4s, Z4r, Z4p, Z4q, Z4n, Z4l, Z4m, Z4o, Z4i, Z4j, Z4g, Z4t, S0, encI, encB, Z4k, Z2e, Z25, Z4h, Z2b, Z24, Z36, Z37, Z35, Z3s, Z3t, Z3r, Z3p, Z3q, idxT_Bs, h2, h3]
  refine CallR.pure o1 (cl_cons hcp (cl_cons (Z2r _) cl_nil)) (hcn _) ?_
  simp [AWb_seq, Z0m, Z0n, Z0j, Z0k, Z0r, Z0l, Z0p, Z0q, Z0o, Z21, Z20, Z22, Z23, Z3d, Z3e, Z3a, vIdx, Z4x, Z4w, Z4y, vApp, Z4u, Z3u, Z11, Z10, Z0z, Z0x, Z0w, Z0y, Z17, Z16, Z15, Z13, Z12, Z14, Z2c, Z2d, Z2a, Z2n, Z31, Z30, Z07, Z08, Z06, Z01, Z02, Z00, Z04, Z05, Z03, Z1z, Z1y, Z46, Z48, Z47, Z45, Z1n, Z1o, Z1m, Z3n, Z3k, Z3m, Z3l, Z3o, Z1l, Z29, Z32, Z3x, Z1i, Z1j, Z1k, Z3v, Z3w, Z1g, Z28, Z1h, Z3i, Z3f, Z3h, Z3g, Z3j, Z41, Z40, Z0t, Z0u, Z0v, Z0s, Z1f, Z4c, Z4b, Z4d, Z4a, Z49, ex, Z43, Z42, ev_t, ev_c, Z27, Z26, Z4e, Z4f, Z2m, Z2l, Z2f, Z2j, Z2k, Z2g, Z2h, Z2i, putc, exBslice, lfill, exField, exIdxV, exIdxP, exBox, exAlloc, Z3b, Z3c, exStore, exFieldA, Z34, Z33, Z39, Z38, exPick, exUn, exBeq, exMM, exSeq, seqGo, exExt, binV, intOp, subc, Z4s, Z4r, Z4p, Z4q, Z4n, Z4l, Z4m, Z4o, Z4i, Z4j, Z4g, Z4t, S0, encI, encB, Z4k, Z2e, Z25, Z4h, Z2b, Z24, Z36, Z37, Z35, Z3s, Z3t, Z3r, Z3p, Z3q, idxT_Bs, exAlloc]
  refine CallR.pure o2 (cl_cons hcq (cl_cons (Z2r _) cl_nil)) (hcn _) ?_
  simp [AWb_seq, Z0m, Z0n, Z0j, Z0k, Z0r, Z0l, Z0p, Z0q, Z0o, Z21, Z20, Z22, Z23, Z3d, Z3e, Z3a, vIdx, Z4x, Z4w, Z4y, vApp, Z4u, Z3u, Z11, Z10, Z0z, Z0x, Z0w, Z0y, Z17, Z16, Z15, Z13, Z12, Z14, Z2c, Z2d, Z2a, Z2n, Z31, Z30, Z07, Z08, Z06, Z01, Z02, Z00, Z04, Z05, Z03, Z1z, Z1y, Z46, Z48, Z47, Z45, Z1n, Z1o, Z1m, Z3n, Z3k, Z3m, Z3l, Z3o, Z1l, Z29, Z32, Z3x, Z1i, Z1j, Z1k, Z3v, Z3w, Z1g, Z28, Z1h, Z3i, Z3f, Z3h, Z3g, Z3j, Z41, Z40, Z0t, Z0u, Z0v, Z0s, Z1f, Z4c, Z4b, Z4d, Z4a, Z49, ex, Z43, Z42, ev_t, ev_c, Z27, Z26, Z4e, Z4f, Z2m, Z2l, Z2f, Z2j, Z2k, Z2g, Z2h, Z2i, putc, exBslice, lfill, exField, exIdxV, exIdxP, exBox, exAlloc, Z3b, Z3c, exStore, exFieldA, Z34, Z33, Z39, Z38, exPick, exUn, exBeq, exMM, exSeq, seqGo, exExt, binV, intOp, subc, Z4s, Z4r, Z4p, Z4q, Z4n, Z4l, Z4m, Z4o, Z4i, Z4j, Z4g, Z4t, S0, encI, encB, Z4k, Z2e, Z25, Z4h, Z2b, Z24, Z36, Z37, Z35, Z3s, Z3t, Z3r, Z3p, Z3q, idxT_Bs, exAlloc, exBuild, afill]
  refine CallR.pure o3 (cl_cons (hcl _) (cl_cons (Z2r _) cl_nil)) (hcn _) ?_
  simp [AWb_seq, Z0m, Z0n, Z0j, Z0k, Z0r, Z0l, Z0p, Z0q, Z0o, Z21, Z20, Z22, Z23, Z3d, Z3e, Z3a, vIdx, Z4x, Z4w, Z4y, vApp, Z4u, Z3u, Z11, Z10, Z0z, Z0x, Z0w, Z0y, Z17, Z16, Z15, Z13, Z12, Z14, Z2c, Z2d, Z2a, Z2n, Z31, Z30, Z07, Z08, Z06, Z01, Z02, Z00, Z04, Z05, Z03, Z1z, Z1y, Z46, Z48, Z47, Z45, Z1n, Z1o, Z1m, Z3n, Z3k, Z3m, Z3l, Z3o, Z1l, Z29, Z32, Z3x, Z1i, Z1j, Z1k, Z3v, Z3w, Z1g, Z28, Z1h, Z3i, Z3f, Z3h, Z3g, Z3j, Z41, Z40, Z0t, Z0u, Z0v, Z0s, Z1f, Z4c, Z4b, Z4d, Z4a, Z49, ex, Z43, Z42, ev_t, ev_c, Z27, Z26, Z4e, Z4f, Z2m, Z2l, Z2f, Z2j, Z2k, Z2g, Z2h, Z2i, putc, exBslice, lfill, exField, exIdxV, exIdxP, exBox, exAlloc, Z3b, Z3c, exStore, exFieldA, Z34, Z33, Z39, Z38, exPick, exUn, exBeq, exMM, exSeq, seqGo, exExt, binV, intOp, subc, Z4s, Z4r, Z4p, Z4q, Z4n, Z4l, Z4m, Z4o, Z4i, Z4j, Z4g, Z4t, S0, encI, encB, Z4k, Z2e, Z25, Z4h, Z2b, Z24, Z36, Z37, Z35, Z3s, Z3t, Z3r, Z3p, Z3q, idxT_Bs, exAlloc, exBuild, afill]
  refine CallR.pure o4 (cl_cons (hcl _) (cl_cons (Z2r _) cl_nil)) (hcn _) ?_
  simp [AWb_seq, Z0m, Z0n, Z0j, Z0k, Z0r, Z0l, Z0p, Z0q, Z0o, Z21, Z20, Z22, Z23, Z3d, Z3e, Z3a, vIdx, Z4x, Z4w, Z4y, vApp, Z4u, Z3u, Z11, Z10, Z0z, Z0x, Z0w, Z0y, Z17, Z16, Z15, Z13, Z12, Z14, Z2c, Z2d, Z2a, Z2n, Z31, Z30, Z07, Z08, Z06, Z01, Z02, Z00, Z04, Z05, Z03, Z1z, Z1y, Z46, Z48, Z47, Z45, Z1n, Z1o, Z1m, Z3n, Z3k, Z3m, Z3l, Z3o, Z1l, Z29, Z32, Z3x, Z1i, Z1j, Z1k, Z3v, Z3w, Z1g, Z28, Z1h, Z3i, Z3f, Z3h, Z3g, Z3j, Z41, Z40, Z0t, Z0u, Z0v, Z0s, Z1f, Z4c, Z4b, Z4d, Z4a, Z49, ex, Z43, Z42, ev_t, ev_c, Z27, Z26, Z4e, Z4f, Z2m, Z2l, Z2f, Z2j, Z2k, Z2g, Z2h, Z2i, putc, exBslice, lfill, exField, exIdxV, exIdxP, exBox, exAlloc, Z3b, Z3c, exStore, exFieldA, Z34, Z33, Z39, Z38, exPick, exUn, exBeq, exMM, exSeq, seqGo, exExt, binV, intOp, subc, Z4s, Z4r, Z4p, Z4q, Z4n, Z4l, Z4m, Z4o, Z4i, Z4j, Z4g, Z4t, S0, encI, encB, Z4k, Z2e, Z25, Z4h, Z2b, Z24, Z36, Z37, Z35, Z3s, Z3t, Z3r, Z3p, Z3q, idxT_Bs, exAlloc, c_lj_in]
  refine AWb_for (l.length + 1) (ljI a b l) (ljA a b l) 10 (ljG a b c d) () trivial ?_ ?_
  · refine Abs.of [(0, 23), (1, 31), (2, 42), (3, 53)] [] (by omega) ⟨by simp, by simp⟩ ?_ ?_
    · simp [RenL_snoc, RenL.cl, RenV.cl, Z2r, Z2o, Z2s, Z2t, Z2p, Z2v, Z2u, Z2q, Z2w, Z2x, Z1d, Z1c, Z1b, Z19, Z18, Z1a, Z1e, Z52, Z4v, Z4z, Z3y, Z51, Z50, Z3z, Z1p, Z1q, Z1x, Z1v, Z1w, Z1u, Z1t, Z1s, Z1r, Z44, Z43, Z42, Z4e, Z4f, Z22, Z23, Z3d, Z3e, Z27, Z26, vV_t, vV_f, vB_t, vB_f, encI, encB, ljG, closed_Net]
    · simp [RenL_snoc, RenL.cl, RenV.cl, Z2r, Z2o, Z2s, Z2t, Z2p, Z2v, Z2u, Z2q, Z2w, Z2x, Z1d, Z1c, Z1b, Z19, Z18, Z1a, Z1e, Z52, Z4v, Z4z, Z3y, Z51, Z50, Z3z, Z1p, Z1q, Z1x, Z1v, Z1w, Z1u, Z1t, Z1s, Z1r, Z44, Z43, Z42, Z4e, Z4f, Z22, Z23, Z3d, Z3e, Z27, Z26, vV_t, vV_f, vB_t, vB_f, encI, encB, ljA, splN]
  · rintro k _ hk _
    by_cases hlt : k ≤ l.length
    · have hltI : (k : Int) ≤ (l.length : Int) := by omega
      have hk0 : (0 : Int) ≤ (k : Int) := by omega
      have hss := splN_succ a b l k
      have dA := fun n' g' => CallD.cd (S := ⟨n', g'⟩) (hA (l.take k) (by rw [List.length_take]; omega)) (cl_cons (closed_Net a) (cl_cons (Z2s _) cl_nil)) (Z2o _)
      have dB := fun n' g' => CallD.cd (S := ⟨n', g'⟩) (hB (l.drop k) (by rw [List.length_drop]; omega)) (cl_cons (closed_Net b) (cl_cons (Z2s _) cl_nil)) (Z2o _)
      have fin : Abs 0 (afOf (ljA a b l (k + 1) ())) ⟨10, gOf (ljG a b c d 0 ())⟩ (afOf (ljA a b l (k + 1) ())) ⟨10, gOf (ljG a b c d 0 ())⟩ := .refl _ _
      cases hs : splN a b l k with
      | true =>
        have hs' : splN a b l (k + 1) = true := by rw [hss, hs]; rfl
        simp [AWb_seq, Z0m, Z0n, Z0j, Z0k, Z0r, Z0l, Z0p, Z0q, Z0o, Z21, Z20, Z22, Z23, Z3d, Z3e, Z3a, vIdx, Z4x, Z4w, Z4y, vApp, Z4u, Z3u, Z11, Z10, Z0z, Z0x, Z0w, Z0y, Z17, Z16, Z15, Z13, Z12, Z14, Z2c, Z2d, Z2a, Z2n, Z31, Z30, Z07, Z08, Z06, Z01, Z02, Z00, Z04, Z05, Z03, Z1z, Z1y, Z46, Z48, Z47, Z45, Z1n, Z1o, Z1m, Z3n, Z3k, Z3m, Z3l, Z3o, Z1l, Z29, Z32, Z3x, Z1i, Z1j, Z1k, Z3v, Z3w, Z1g, Z28, Z1h, Z3i, Z3f, Z3h, Z3g, Z3j, Z41, Z40, Z0t, Z0u, Z0v, Z0s, Z1f, Z4c, Z4b, Z4d, Z4a, Z49, ex, Z43, Z42, ev_t, ev_c, Z27, Z26, Z4e, Z4f, Z2m, Z2l, Z2f, Z2j, Z2k, Z2g, Z2h, Z2i, putc, exBslice, lfill, exField, exIdxV, exIdxP, exBox, exAlloc, Z3b, Z3c, exStore, exFieldA, Z34, Z33, Z39, Z38, exPick, exUn, exBeq, exMM, exSeq, seqGo, exExt, binV, intOp, subc, Z4s, Z4r, Z4p, Z4q, Z4n, Z4l, Z4m, Z4o, Z4i, Z4j, Z4g, Z4t, S0, encI, encB, Z4k, Z2e, Z25, Z4h, Z2b, Z24, Z36, Z37, Z35, Z3s, Z3t, Z3r, Z3p, Z3q, idxT_Bs, ljA, ljG, hltI, hs, c_lj_b]
        rw [wrap_in _ (by omega)]
        refine ⟨by omega, (), trivial, Abs.of [(0, 0), (1, 1), (2, 2), (3, 3)] [] (by omega) ⟨by simp, by simp⟩ ?_ ?_⟩
        · simp [RenL_snoc, RenL.cl, RenV.cl, Z2r, Z2o, Z2s, Z2t, Z2p, Z2v, Z2u, Z2q, Z2w, Z2x, Z1d, Z1c, Z1b, Z19, Z18, Z1a, Z1e, Z52, Z4v, Z4z, Z3y, Z51, Z50, Z3z, Z1p, Z1q, Z1x, Z1v, Z1w, Z1u, Z1t, Z1s, Z1r, Z44, Z43, Z42, Z4e, Z4f, Z22, Z23, Z3d, Z3e, Z27, Z26, vV_t, vV_f, vB_t, vB_f, encI, encB, ljG, closed_Net]
        · simp [RenL_snoc, RenL.cl, RenV.cl, Z2r, Z2o, Z2s, Z2t, Z2p, Z2v, Z2u, Z2q, Z2w, Z2x, Z1d, Z1c, Z1b, Z19, Z18, Z1a, Z1e, Z52, Z4v, Z4z, Z3y, Z51, Z50, Z3z, Z1p, Z1q, Z1x, Z1v, Z1w, Z1u, Z1t, Z1s, Z1r, Z44, Z43, Z42, Z4e, Z4f, Z22, Z23, Z3d, Z3e, Z27, Z26, vV_t, vV_f, vB_t, vB_f, encI, encB, ljA, hs']
      | false =>
        simp only [encI, encB, encNet] at dA dB
        cases hva : accN a (l.take k) with
        | false =>
          rw [hva] at dA
          have hs' : splN a b l (k + 1) = false := by rw [hss, hs, hva]; rfl
          simp [AWb_seq, Z0m, Z0n, Z0j, Z0k, Z0r, Z0l, Z0p, Z0q, Z0o, Z21, Z20, Z22, Z23, Z3d, Z3e, Z3a, vIdx, Z4x, Z4w, Z4y, vApp, Z4u, Z3u, Z11, Z10, Z0z, Z0x, Z0w, Z0y, Z17, Z16, Z15, Z13, Z12, Z14, Z2c, Z2d, Z2a, Z2n, Z31, Z30, Z07, Z08, Z06, Z01, Z02, Z00, Z04, Z05, Z03, Z1z, Z1y, Z46, Z48, Z47, Z45, Z1n, Z1o, Z1m, Z3n, Z3k, Z3m, Z3l, Z3o, Z1l, Z29, Z32, Z3x, Z1i, Z1j, Z1k, Z3v, Z3w, Z1g, Z28, Z1h, Z3i, Z3f, Z3h, Z3g, Z3j, Z41, Z40, Z0t, Z0u, Z0v, Z0s, Z1f, Z4c, Z4b, Z4d, Z4a, Z49, ex, Z43, Z42, ev_t, ev_c, Z27, Z26, Z4e, Z4f, Z2m, Z2l, Z2f, Z2j, Z2k, Z2g, Z2h, Z2i, putc, exBslice, lfill, exField, exIdxV, exIdxP, exBox, exAlloc, Z3b, Z3c, exStore, exFieldA, Z34, Z33, Z39, Z38, exPick, exUn, exBeq, exMM, exSeq, seqGo, exExt, binV, intOp, subc, Z4s, Z4r, Z4p, Z4q, Z4n, Z4l, Z4m, Z4o, Z4i, Z4j, Z4g, Z4t, S0, encI, encB, Z4k, Z2e, Z25, Z4h, Z2b, Z24, Z36, Z37, Z35, Z3s, Z3t, Z3r, Z3p, Z3q, idxT_Bs, ljA, ljG, hltI, hk0, hs, c_lj_b, slcT_hi, slcT_lo]
          refine ⟨_, ⟨_, dA _ _⟩, ?_⟩
          simp [AWb_seq, Z0m, Z0n, Z0j, Z0k, Z0r, Z0l, Z0p, Z0q, Z0o, Z21, Z20, Z22, Z23, Z3d, Z3e, Z3a, vIdx, Z4x, Z4w, Z4y, vApp, Z4u, Z3u, Z11, Z10, Z0z, Z0x, Z0w, Z0y, Z17, Z16, Z15, Z13, Z12, Z14, Z2c, Z2d, Z2a, Z2n, Z31, Z30, Z07, Z08, Z06, Z01, Z02, Z00, Z04, Z05, Z03, Z1z, Z1y, Z46, Z48, Z47, Z45, Z1n, Z1o, Z1m, Z3n, Z3k, Z3m, Z3l, Z3o, Z1l, Z29, Z32, Z3x, Z1i, Z1j, Z1k, Z3v, Z3w, Z1g, Z28, Z1h, Z3i, Z3f, Z3h, Z3g, Z3j, Z41, Z40, Z0t, Z0u, Z0v, Z0s, Z1f, Z4c, Z4b, Z4d, Z4a, Z49, ex, Z43, Z42, ev_t, ev_c, Z27, Z26, Z4e, Z4f, Z2m, Z2l, Z2f, Z2j, Z2k, Z2g, Z2h, Z2i, putc, exBslice, lfill, exField, exIdxV, exIdxP, exBox, exAlloc, Z3b, Z3c, exStore, exFieldA, Z34, Z33, Z39, Z38, exPick, exUn, exBeq, exMM, exSeq, seqGo, exExt, binV, intOp, subc, Z4s, Z4r, Z4p, Z4q, Z4n, Z4l, Z4m, Z4o, Z4i, Z4j, Z4g, Z4t, S0, encI, encB, Z4k, Z2e, Z25, Z4h, Z2b, Z24, Z36, Z37, Z35, Z3s, Z3t, Z3r, Z3p, Z3q, idxT_Bs]
          rw [wrap_in _ (by omega)]
          refine ⟨by omega, (), trivial, Abs.of [(0, 0), (1, 1), (2, 2), (3, 3)] [] (by omega) ⟨by simp, by simp⟩ ?_ ?_⟩
          · simp [RenL_snoc, RenL.cl, RenV.cl, Z2r, Z2o, Z2s, Z2t, Z2p, Z2v, Z2u, Z2q, Z2w, Z2x, Z1d, Z1c, Z1b, Z19, Z18, Z1a, Z1e, Z52, Z4v, Z4z, Z3y, Z51, Z50, Z3z, Z1p, Z1q, Z1x, Z1v, Z1w, Z1u, Z1t, Z1s, Z1r, Z44, Z43, Z42, Z4e, Z4f, Z22, Z23, Z3d, Z3e, Z27, Z26, vV_t, vV_f, vB_t, vB_f, encI, encB, ljG, closed_Net]
          · simp [RenL_snoc, RenL.cl, RenV.cl, Z2r, Z2o, Z2s, Z2t, Z2p, Z2v, Z2u, Z2q, Z2w, Z2x, Z1d, Z1c, Z1b, Z19, Z18, Z1a, Z1e, Z52, Z4v, Z4z, Z3y, Z51, Z50, Z3z, Z1p, Z1q, Z1x, Z1v, Z1w, Z1u, Z1t, Z1s, Z1r, Z44, Z43, Z42, Z4e, Z4f, Z22, Z23, Z3d, Z3e, Z27, Z26, vV_t, vV_f, vB_t, vB_f, encI, encB, ljA, hs']
        | true =>
          rw [hva] at dA
          have hs' : splN a b l (k + 1) = accN b (l.drop k) := by rw [hss, hs, hva]; rfl
          simp [AWb_seq, Z0m, Z0n, Z0j, Z0k, Z0r, Z0l, Z0p, Z0q, Z0o, Z21, Z20, Z22, Z23, Z3d, Z3e, Z3a, vIdx, Z4x, Z4w, Z4y, vApp, Z4u, Z3u, Z11, Z10, Z0z, Z0x, Z0w, Z0y, Z17, Z16, Z15, Z13, Z12, Z14, Z2c, Z2d, Z2a, Z2n, Z31, Z30, Z07, Z08, Z06, Z01, Z02, Z00, Z04, Z05, Z03, Z1z, Z1y, Z46, Z48, Z47, Z45, Z1n, Z1o, Z1m, Z3n, Z3k, Z3m, Z3l, Z3o, Z1l, Z29, Z32, Z3x, Z1i, Z1j, Z1k, Z3v, Z3w, Z1g, Z28, Z1h, Z3i, Z3f, Z3h, Z3g, Z3j, Z41, Z40, Z0t, Z0u, Z0v, Z0s, Z1f, Z4c, Z4b, Z4d, Z4a, Z49, ex, Z43, Z42, ev_t, ev_c, Z27, Z26, Z4e, Z4f, Z2m, Z2l, Z2f, Z2j, Z2k, Z2g, Z2h, Z2i, putc, exBslice, lfill, exField, exIdxV, exIdxP, exBox, exAlloc, Z3b, Z3c, exStore, exFieldA, Z34, Z33, Z39, Z38, exPick, exUn, exBeq, exMM, exSeq, seqGo, exExt, binV, intOp, subc, Z4s, Z4r, Z4p, Z4q, Z4n, Z4l, Z4m, Z4o, Z4i, Z4j, Z4g, Z4t, S0, encI, encB, Z4k, Z2e, Z25, Z4h, Z2b, Z24, Z36, Z37, Z35, Z3s, Z3t, Z3r, Z3p, Z3q, idxT_Bs, ljA, ljG, hltI, hk0, hs, c_lj_b, slcT_hi, slcT_lo]
          refine ⟨_, ⟨_, dA _ _⟩, ?_⟩
          simp [AWb_seq, Z0m, Z0n, Z0j, Z0k, Z0r, Z0l, Z0p, Z0q, Z0o, Z21, Z20, Z22, Z23, Z3d, Z3e, Z3a, vIdx, Z4x, Z4w, Z4y, vApp, Z4u, Z3u, Z11, Z10, Z0z, Z0x, Z0w, Z0y, Z17, Z16, Z15, Z13, Z12, Z14, Z2c, Z2d, Z2a, Z2n, Z31, Z30, Z07, Z08, Z06, Z01, Z02, Z00, Z04, Z05, Z03, Z1z, Z1y, Z46, Z48, Z47, Z45, Z1n, Z1o, Z1m, Z3n, Z3k, Z3m, Z3l, Z3o, Z1l, Z29, Z32, Z3x, Z1i, Z1j, Z1k, Z3v, Z3w, Z1g, Z28, Z1h, Z3i, Z3f, Z3h, Z3g, Z3j, Z41, Z40, Z0t, Z0u, Z0v, Z0s, Z1f, Z4c, Z4b, Z4d, Z4a, Z49, ex, Z43, Z42, ev_t, ev_c, Z27, Z26, Z4e, Z4f, Z2m, Z2l, Z2f, Z2j, Z2k, Z2g, Z2h, Z2i, putc, exBslice, lfill, exField, exIdxV, exIdxP, exBox, exAlloc, Z3b, Z3c, exStore, exFieldA, Z34, Z33, Z39, Z38, exPick, exUn, exBeq, exMM, exSeq, seqGo, exExt, binV, intOp, subc, Z4s, Z4r, Z4p, Z4q, Z4n, Z4l, Z4m, Z4o, Z4i, Z4j, Z4g, Z4t, S0, encI, encB, Z4k, Z2e, Z25, Z4h, Z2b, Z24, Z36, Z37, Z35, Z3s, Z3t, Z3r, Z3p, Z3q, idxT_Bs, hltI, hk0, slcT_hi, slcT_lo]
          refine ⟨_, ⟨_, dB _ _⟩, ?_⟩
          rw [wrap_in _ (by omega)]
          refine ⟨by omega, (), trivial, Abs.of [(0, 0), (1, 1), (2, 2), (3, 3)] [] (by omega) ⟨by simp, by simp⟩ ?_ ?_⟩
          · simp [RenL_snoc, RenL.cl, RenV.cl, Z2r, Z2o, Z2s, Z2t, Z2p, Z2v, Z2u, Z2q, Z2w, Z2x, Z1d, Z1c, Z1b, Z19, Z18, Z1a, Z1e, Z52, Z4v, Z4z, Z3y, Z51, Z50, Z3z, Z1p, Z1q, Z1x, Z1v, Z1w, Z1u, Z1t, Z1s, Z1r, Z44, Z43, Z42, Z4e, Z4f, Z22, Z23, Z3d, Z3e, Z27, Z26, vV_t, vV_f, vB_t, vB_f, encI, encB, ljG, closed_Net]
          · simp [RenL_snoc, RenL.cl, RenV.cl, Z2r, Z2o, Z2s, Z2t, Z2p, Z2v, Z2u, Z2q, Z2w, Z2x, Z1d, Z1c, Z1b, Z19, Z18, Z1a, Z1e, Z52, Z4v, Z4z, Z3y, Z51, Z50, Z3z, Z1p, Z1q, Z1x, Z1v, Z1w, Z1u, Z1t, Z1s, Z1r, Z44, Z43, Z42, Z4e, Z4f, Z22, Z23, Z3d, Z3e, Z27, Z26, vV_t, vV_f, vB_t, vB_f, encI, encB, ljA, hs']
    · have hke : k = l.length + 1 := by omega
      subst hke
      have hltI : ¬ ((l.length : Int) + 1 ≤ (l.length : Int)) := by omega
      have hj2 : splN a b l (l.length + 1) = accN d l := hjo.symm
      have hA' := hA l (by omega)
      have hB' := hB l (by omega)
      have D1 := fun n' g' => CallD.cd (S := ⟨n', g'⟩) hC (cl_cons (closed_Net c) (cl_cons (Z2s _) cl_nil)) (Z2o _)
      have D2 := fun n' g' => CallD.cd (S := ⟨n', g'⟩) hA' (cl_cons (closed_Net a) (cl_cons (Z2s _) cl_nil)) (Z2o _)
      have D3 := fun n' g' => CallD.cd (S := ⟨n', g'⟩) hB' (cl_cons (closed_Net b) (cl_cons (Z2s _) cl_nil)) (Z2o _)
      have D4 := fun n' g' => CallD.cd (S := ⟨n', g'⟩) hD (cl_cons (closed_Net d) (cl_cons (Z2s _) cl_nil)) (Z2o _)
      have hlen1 : ((c.by_.length : Int) == (a.by_.length : Int) + (b.by_.length : Int) - 1) = true := by simp; omega
      have hlen2 : ((d.by_.length : Int) == (c.by_.length : Int)) = true := by simp; omega
      have hlen1' : (c.by_.length : Int) = (a.by_.length : Int) + (b.by_.length : Int) - 1 := by omega
      have hlen2' : (d.by_.length : Int) = (c.by_.length : Int) := by omega
      have hw1 : IntKind.i64.wrap ((a.by_.length : Int) + (b.by_.length : Int)) = (a.by_.length : Int) + (b.by_.length : Int) := wrap_in _ (by omega)
      have hw2 : IntKind.i64.wrap ((a.by_.length : Int) + (b.by_.length : Int) - 1) = (a.by_.length : Int) + (b.by_.length : Int) - 1 := wrap_in _ (by omega)
      rw [hor] at D1
      simp [AWb_seq, Z0m, Z0n, Z0j, Z0k, Z0r, Z0l, Z0p, Z0q, Z0o, Z21, Z20, Z22, Z23, Z3d, Z3e, Z3a, vIdx, Z4x, Z4w, Z4y, vApp, Z4u, Z3u, Z11, Z10, Z0z, Z0x, Z0w, Z0y, Z17, Z16, Z15, Z13, Z12, Z14, Z2c, Z2d, Z2a, Z2n, Z31, Z30, Z07, Z08, Z06, Z01, Z02, Z00, Z04, Z05, Z03, Z1z, Z1y, Z46, Z48, Z47, Z45, Z1n, Z1o, Z1m, Z3n, Z3k, Z3m, Z3l, Z3o, Z1l, Z29, Z32, Z3x, Z1i, Z1j, Z1k, Z3v, Z3w, Z1g, Z28, Z1h, Z3i, Z3f, Z3h, Z3g, Z3j, Z41, Z40, Z0t, Z0u, Z0v, Z0s, Z1f, Z4c, Z4b, Z4d, Z4a, Z49, ex, Z43, Z42, ev_t, ev_c, Z27, Z26, Z4e, Z4f, Z2m, Z2l, Z2f, Z2j, Z2k, Z2g, Z2h, Z2i, putc, exBslice, lfill, exField, exIdxV, exIdxP, exBox, exAlloc, Z3b, Z3c, exStore, exFieldA, Z34, Z33, Z39, Z38, exPick, exUn, exBeq, exMM, exSeq, seqGo, exExt, binV, intOp, subc, Z4s, Z4r, Z4p, Z4q, Z4n, Z4l, Z4m, Z4o, Z4i, Z4j, Z4g, Z4t, S0, encI, encB, Z4k, Z2e, Z25, Z4h, Z2b, Z24, Z36, Z37, Z35, Z3s, Z3t, Z3r, Z3p, Z3q, idxT_Bs, ljA, ljG, hltI, hj2, c_lj_end]
      refine ⟨_, ⟨_, D1 _ _⟩, _, ⟨_, D2 _ _⟩, ?_⟩
      cases hva : accN a l with
      | true =>
        rw [hva] at hor
        simp [AWb_seq, Z0m, Z0n, Z0j, Z0k, Z0r, Z0l, Z0p, Z0q, Z0o, Z21, Z20, Z22, Z23, Z3d, Z3e, Z3a, vIdx, Z4x, Z4w, Z4y, vApp, Z4u, Z3u, Z11, Z10, Z0z, Z0x, Z0w, Z0y, Z17, Z16, Z15, Z13, Z12, Z14, Z2c, Z2d, Z2a, Z2n, Z31, Z30, Z07, Z08, Z06, Z01, Z02, Z00, Z04, Z05, Z03, Z1z, Z1y, Z46, Z48, Z47, Z45, Z1n, Z1o, Z1m, Z3n, Z3k, Z3m, Z3l, Z3o, Z1l, Z29, Z32, Z3x, Z1i, Z1j, Z1k, Z3v, Z3w, Z1g, Z28, Z1h, Z3i, Z3f, Z3h, Z3g, Z3j, Z41, Z40, Z0t, Z0u, Z0v, Z0s, Z1f, Z4c, Z4b, Z4d, Z4a, Z49, ex, Z43, Z42, ev_t, ev_c, Z27, Z26, Z4e, Z4f, Z2m, Z2l, Z2f, Z2j, Z2k, Z2g, Z2h, Z2i, putc, exBslice, lfill, exField, exIdxV, exIdxP, exBox, exAlloc, Z3b, Z3c, exStore, exFieldA, Z34, Z33, Z39, Z38, exPick, exUn, exBeq, exMM, exSeq, seqGo, exExt, binV, intOp, subc, Z4s, Z4r, Z4p, Z4q, Z4n, Z4l, Z4m, Z4o, Z4i, Z4j, Z4g, Z4t, S0, encI, encB, Z4k, Z2e, Z25, Z4h, Z2b, Z24, Z36, Z37, Z35, Z3s, Z3t, Z3r, Z3p, Z3q, idxT_Bs, hlen1, hlen2, hw1, hw2]
        refine ⟨_, ⟨_, D4 _ _⟩, ?_⟩
        simp [AWb_seq, Z0m, Z0n, Z0j, Z0k, Z0r, Z0l, Z0p, Z0q, Z0o, Z21, Z20, Z22, Z23, Z3d, Z3e, Z3a, vIdx, Z4x, Z4w, Z4y, vApp, Z4u, Z3u, Z11, Z10, Z0z, Z0x, Z0w, Z0y, Z17, Z16, Z15, Z13, Z12, Z14, Z2c, Z2d, Z2a, Z2n, Z31, Z30, Z07, Z08, Z06, Z01, Z02, Z00, Z04, Z05, Z03, Z1z, Z1y, Z46, Z48, Z47, Z45, Z1n, Z1o, Z1m, Z3n, Z3k, Z3m, Z3l, Z3o, Z1l, Z29, Z32, Z3x, Z1i, Z1j, Z1k, Z3v, Z3w, Z1g, Z28, Z1h, Z3i, Z3f, Z3h, Z3g, Z3j, Z41, Z40, Z0t, Z0u, Z0v, Z0s, Z1f, Z4c, Z4b, Z4d, Z4a, Z49, ex, Z43, Z42, ev_t, ev_c, Z27, Z26, Z4e, Z4f, Z2m, Z2l, Z2f, Z2j, Z2k, Z2g, Z2h, Z2i, putc, exBslice, lfill, exField, exIdxV, exIdxP, exBox, exAlloc, Z3b, Z3c, exStore, exFieldA, Z34, Z33, Z39, Z38, exPick, exUn, exBeq, exMM, exSeq, seqGo, exExt, binV, intOp, subc, Z4s, Z4r, Z4p, Z4q, Z4n, Z4l, Z4m, Z4o, Z4i, Z4j, Z4g, Z4t, S0, encI, encB, Z4k, Z2e, Z25, Z4h, Z2b, Z24, Z36, Z37, Z35, Z3s, Z3t, Z3r, Z3p, Z3q, idxT_Bs, hlen1, hlen2, hw1, hw2, hlen1', hlen2']
        exact FzK_B true _
      | false =>
        rw [hva] at hor
        simp [AWb_seq, Z0m, Z0n, Z0j, Z0k, Z0r, Z0l, Z0p, Z0q, Z0o, Z21, Z20, Z22, Z23, Z3d, Z3e, Z3a, vIdx, Z4x, Z4w, Z4y, vApp, Z4u, Z3u, Z11, Z10, Z0z, Z0x, Z0w, Z0y, Z17, Z16, Z15, Z13, Z12, Z14, Z2c, Z2d, Z2a, Z2n, Z31, Z30, Z07, Z08, Z06, Z01, Z02, Z00, Z04, Z05, Z03, Z1z, Z1y, Z46, Z48, Z47, Z45, Z1n, Z1o, Z1m, Z3n, Z3k, Z3m, Z3l, Z3o, Z1l, Z29, Z32, Z3x, Z1i, Z1j, Z1k, Z3v, Z3w, Z1g, Z28, Z1h, Z3i, Z3f, Z3h, Z3g, Z3j, Z41, Z40, Z0t, Z0u, Z0v, Z0s, Z1f, Z4c, Z4b, Z4d, Z4a, Z49, ex, Z43, Z42, ev_t, ev_c, Z27, Z26, Z4e, Z4f, Z2m, Z2l, Z2f, Z2j, Z2k, Z2g, Z2h, Z2i, putc, exBslice, lfill, exField, exIdxV, exIdxP, exBox, exAlloc, Z3b, Z3c, exStore, exFieldA, Z34, Z33, Z39, Z38, exPick, exUn, exBeq, exMM, exSeq, seqGo, exExt, binV, intOp, subc, Z4s, Z4r, Z4p, Z4q, Z4n, Z4l, Z4m, Z4o, Z4i, Z4j, Z4g, Z4t, S0, encI, encB, Z4k, Z2e, Z25, Z4h, Z2b, Z24, Z36, Z37, Z35, Z3s, Z3t, Z3r, Z3p, Z3q, idxT_Bs, hlen1, hlen2, hw1, hw2]
        refine ⟨_, ⟨_, D3 _ _⟩, ?_⟩
        simp [AWb_seq, Z0m, Z0n, Z0j, Z0k, Z0r, Z0l, Z0p, Z0q, Z0o, Z21, Z20, Z22, Z23, Z3d, Z3e, Z3a, vIdx, Z4x, Z4w, Z4y, vApp, Z4u, Z3u, Z11, Z10, Z0z, Z0x, Z0w, Z0y, Z17, Z16, Z15, Z13, Z12, Z14, Z2c, Z2d, Z2a, Z2n, Z31, Z30, Z07, Z08, Z06, Z01, Z02, Z00, Z04, Z05, Z03, Z1z, Z1y, Z46, Z48, Z47, Z45, Z1n, Z1o, Z1m, Z3n, Z3k, Z3m, Z3l, Z3o, Z1l, Z29, Z32, Z3x, Z1i, Z1j, Z1k, Z3v, Z3w, Z1g, Z28, Z1h, Z3i, Z3f, Z3h, Z3g, Z3j, Z41, Z40, Z0t, Z0u, Z0v, Z0s, Z1f, Z4c, Z4b, Z4d, Z4a, Z49, ex, Z43, Z42, ev_t, ev_c, Z27, Z26, Z4e, Z4f, Z2m, Z2l, Z2f, Z2j, Z2k, Z2g, Z2h, Z2i, putc, exBslice, lfill, exField, exIdxV, exIdxP, exBox, exAlloc, Z3b, Z3c, exStore, exFieldA, Z34, Z33, Z39, Z38, exPick, exUn, exBeq, exMM, exSeq, seqGo, exExt, binV, intOp, subc, Z4s, Z4r, Z4p, Z4q, Z4n, Z4l, Z4m, Z4o, Z4i, Z4j, Z4g, Z4t, S0, encI, encB, Z4k, Z2e, Z25, Z4h, Z2b, Z24, Z36, Z37, Z35, Z3s, Z3t, Z3r, Z3p, Z3q, idxT_Bs, hlen1, hlen2, hw1, hw2]
        refine ⟨_, ⟨_, D4 _ _⟩, ?_⟩
        simp [AWb_seq, Z0m, Z0n, Z0j, Z0k, Z0r, Z0l, Z0p, Z0q, Z0o, Z21, Z20, Z22, Z23, Z3d, Z3e, Z3a, vIdx, Z4x, Z4w, Z4y, vApp, Z4u, Z3u, Z11, Z10, Z0z, Z0x, Z0w, Z0y, Z17, Z16, Z15, Z13, Z12, Z14, Z2c, Z2d, Z2a, Z2n, Z31, Z30, Z07, Z08, Z06, Z01, Z02, Z00, Z04, Z05, Z03, Z1z, Z1y, Z46, Z48, Z47, Z45, Z1n, Z1o, Z1m, Z3n, Z3k, Z3m, Z3l, Z3o, Z1l, Z29, Z32, Z3x, Z1i, Z1j, Z1k, Z3v, Z3w, Z1g, Z28, Z1h, Z3i, Z3f, Z3h, Z3g, Z3j, Z41, Z40, Z0t, Z0u, Z0v, Z0s, Z1f, Z4c, Z4b, Z4d, Z4a, Z49, ex, Z43, Z42, ev_t, ev_c, Z27, Z26, Z4e, Z4f, Z2m, Z2l, Z2f, Z2j, Z2k, Z2g, Z2h, Z2i, putc, exBslice, lfill, exField, exIdxV, exIdxP, exBox, exAlloc, Z3b, Z3c, exStore, exFieldA, Z34, Z33, Z39, Z38, exPick, exUn, exBeq, exMM, exSeq, seqGo, exExt, binV, intOp, subc, Z4s, Z4r, Z4p, Z4q, Z4n, Z4l, Z4m, Z4o, Z4i, Z4j, Z4g, Z4t, S0, encI, encB, Z4k, Z2e, Z25, Z4h, Z2b, Z24, Z36, Z37, Z35, Z3s, Z3t, Z3r, Z3p, Z3q, idxT_Bs, hlen1, hlen2, hw1, hw2, hlen1', hlen2']
        exact FzK_B true _
end Go.Rf

