import Derived.Test.YtajombmjidnbcaaDoorRfP1
/- Own work: the least one (least.Of). -/
set_option linter.unusedVariables false
set_option linter.unusedSimpArgs false
namespace Go.Rf
open Go.RowKit
def c_lo_row : AC :=
  (.block 2 (.loop (.seq (.reg none [
        ⟨(some 48), .bin .lss (.t 47) (.t 46), none, none⟩])
       (.seq (.cond (.t 48) .skip (.exit 2))
       (.seq (.block 3 (.seq (.reg none [
         ⟨(some 49), .mv (.t 47), none, none⟩,
         ⟨(some 50), .idxA 1 (.t 45) (.t 47), none, none⟩,
         ⟨(some 51), .load none (.t 50), none, none⟩,
         ⟨(some 10), .mv (.t 49), none, none⟩,
         ⟨(some 11), .mv (.t 51), none, none⟩])
        (.seq (.reg none [
         ⟨(some 53), .mv (.t 5), none, none⟩,
         ⟨(some 54), .mv (.t 4), none, none⟩,
         ⟨(some 55), .mv (.t 11), none, none⟩,
         ⟨(some 56), .idxA 1 (.t 54) (.t 55), none, none⟩,
         ⟨(some 57), .load none (.t 56), none, none⟩,
         ⟨(some 58), .look (.int .i64) (.v (.int .i64 0)) true (.t 53) (.t 57), none, none⟩,
         ⟨(some 52), .mv (.t 58), none, none⟩,
         ⟨(some 59), .ext 0 (.t 52), none, none⟩,
         ⟨(some 60), .ext 1 (.t 52), none, none⟩,
         ⟨(some 12), .mv (.t 59), none, none⟩,
         ⟨(some 13), .mv (.t 60), none, none⟩])
        (.seq (.seq (.reg none [
         ⟨(some 61), .mv (.t 13), none, none⟩,
         ⟨(some 62), .un .not (.t 61), none, none⟩])
        (.cond (.t 62) (.seq (.reg none [
          ⟨(some 63), .mv (.t 6), none, none⟩,
          ⟨(some 64), .len (.t 63), none, none⟩,
          ⟨(some 12), .mv (.t 64), none, none⟩])
         (.seq (.reg none [
          ⟨(some 65), .mv (.t 5), none, none⟩,
          ⟨(some 66), .mv (.t 4), none, none⟩,
          ⟨(some 67), .mv (.t 11), none, none⟩,
          ⟨(some 68), .idxA 1 (.t 66) (.t 67), none, none⟩,
          ⟨(some 69), .load none (.t 68), none, none⟩,
          ⟨(some 70), .mv (.t 12), none, none⟩,
          ⟨none, .mset (.int .i64) (.t 65) (.t 69) (.t 70), none, none⟩])
         (.reg none [
          ⟨(some 71), .mv (.t 6), none, none⟩,
          ⟨(some 72), .mv (.t 11), none, none⟩,
          ⟨(some 73), .bslice 1 1 (.v (.int .i64 0)) [(0, (.t 72))], none, none⟩,
          ⟨(some 74), .app 1 8 (.t 71) (.t 73), none, none⟩,
          ⟨(some 6), .mv (.t 74), none, none⟩]))) .skip))
        (.reg none [
         ⟨(some 75), .mv (.t 9), none, none⟩,
         ⟨(some 76), .mv (.t 10), none, none⟩,
         ⟨(some 77), .mv (.t 12), none, none⟩,
         ⟨(some 78), .idxA 1 (.t 75) (.t 76), none, none⟩,
         ⟨none, .store 1 (.t 78) (.t 77), none, none⟩])))))
       (.reg none [
        ⟨(some 79), .bin .add (.t 47) (.c (.v (.int .i64 1))), none, none⟩,
        ⟨(some 47), .mv (.t 79), none, none⟩]))))))
def c_lo_add : AC :=
  (.reg (some [[], [], [], [], [], [true], [false, true], [false, false, true], [false, false, false, true], [false, false, false, false, true], [false, false, false, false, false, true], [false, false, false, false, false, false, true], [false, false, false, false, false, false, false, true], [false, false, false, false, false, false, false, false, true], [false, false, false, false, false, false, false, false, false, true], [false, false, false, false, false, false, false, false, false, false, true], [], [true]]) [
      ⟨(some 80), .fieldA 1 (.t 7), none, none⟩,
      ⟨(some 81), .load none (.t 80), none, none⟩,
      ⟨(some 82), .mv (.t 9), none, none⟩,
      ⟨(some 83), .bslice 1 1 (.sl true []) [(0, (.t 82))], none, none⟩,
      ⟨(some 84), .app 1 24 (.t 81) (.t 83), none, none⟩,
      ⟨(some 85), .fieldA 2 (.t 7), none, none⟩,
      ⟨(some 86), .load none (.t 85), none, none⟩,
      ⟨(some 87), .fieldA 2 (.t 1), none, none⟩,
      ⟨(some 88), .load none (.t 87), none, none⟩,
      ⟨(some 89), .mv (.t 6), none, none⟩,
      ⟨(some 90), .mv (.t 8), none, none⟩,
      ⟨(some 91), .idxA 1 (.t 89) (.t 90), none, none⟩,
      ⟨(some 92), .load none (.t 91), none, none⟩,
      ⟨(some 93), .idxA 1 (.t 88) (.t 92), none, none⟩,
      ⟨(some 94), .load none (.t 93), none, none⟩,
      ⟨(some 95), .bslice 1 1 (.v (.bool false)) [(0, (.t 94))], none, none⟩,
      ⟨(some 96), .app 1 1 (.t 86) (.t 95), none, none⟩,
      ⟨(some 97), .fieldA 1 (.t 7), none, none⟩,
      ⟨none, .store 1 (.t 97) (.t 84), none, none⟩,
      ⟨(some 98), .fieldA 2 (.t 7), none, none⟩,
      ⟨none, .store 1 (.t 98) (.t 96), none, none⟩])
def c_lo_out : AC :=
  (.block 0 (.loop (.seq (.seq (.reg none [
     ⟨(some 29), .mv (.t 8), none, none⟩,
     ⟨(some 30), .mv (.t 6), none, none⟩,
     ⟨(some 31), .len (.t 30), none, none⟩,
     ⟨(some 32), .bin .lss (.t 29) (.t 31), none, none⟩])
    (.cond (.t 32) .skip (.exit 0)))
    (.seq (.block 1 (.seq (.reg none [
      ⟨(some 35), .fieldA 0 (.t 1), none, none⟩,
      ⟨(some 36), .load none (.t 35), none, none⟩,
      ⟨(some 37), .mks 1 8 (.v (.int .i64 0)) (.t 36) (.t 36), none, none⟩,
      ⟨(some 9), .mv (.t 37), none, none⟩])
     (.seq (.seq (.reg (some []) [
      ⟨(some 38), .fieldA 1 (.t 1), none, none⟩,
      ⟨(some 39), .load none (.t 38), none, none⟩,
      ⟨(some 40), .mv (.t 6), none, none⟩,
      ⟨(some 41), .mv (.t 8), none, none⟩,
      ⟨(some 42), .idxA 1 (.t 40) (.t 41), none, none⟩,
      ⟨(some 43), .load none (.t 42), none, none⟩,
      ⟨(some 44), .idxA 1 (.t 39) (.t 43), none, none⟩,
      ⟨(some 45), .load none (.t 44), none, none⟩,
      ⟨(some 46), .len (.t 45), none, none⟩,
      ⟨(some 47), .mv (.c (.v (.int .i64 0))), none, none⟩])
     c_lo_row)
     c_lo_add)))
    (.reg none [
     ⟨(some 33), .mv (.t 8), none, none⟩,
     ⟨(some 34), .bin .add (.t 33) (.c (.v (.int .i64 1))), none, none⟩,
     ⟨(some 8), .mv (.t 34), none, none⟩])))))
def c_lo_fin : AC :=
  (.seq (.reg none [
   ⟨(some 99), .load (some 3) (.t 7), none, none⟩,
   ⟨none, .store 3 (.t 2) (.t 99), none, none⟩,
   ⟨(some 3), .mv (.c (.v (.int .i64 0))), none, none⟩])
  .ret)
def c_least_Of (f_det_Right f_least_classes : FuncId) : AC :=
  (.seq (.reg none [
   ⟨(some 1), .box 3 (.t 0), none, none⟩,
   ⟨(some 2), .alloc (.agg [(.v (.int .i64 0)), (.sl true []), (.sl true [])]) 3, none, none⟩,
   ⟨(some 3), .mv (.c (.v (.int .i64 0))), none, none⟩])
  (.seq (.seq (.reg none [
   ⟨(some 14), .load (some 3) (.t 1), none, none⟩,
   ⟨(some 15), .mv (.c .junk), none, (some ((.c (.clo f_det_Right [] [])), [(.t 14)]))⟩,
   ⟨(some 16), .un .not (.t 15), none, none⟩])
  (.cond (.t 16) (.seq (.reg none [
    ⟨(some 17), .build (.agg [(.v (.int .i64 0)), (.sl true []), (.sl true [])]) [] [], none, none⟩,
    ⟨none, .store 3 (.t 2) (.t 17), none, none⟩,
    ⟨(some 3), .mv (.c (.v (.int .i64 1))), none, none⟩])
   .ret) .skip))
  (.seq (.reg none [
   ⟨(some 18), .load (some 3) (.t 1), none, none⟩,
   ⟨(some 19), .mv (.c .junk), none, (some ((.c (.clo f_least_classes [] [])), [(.t 18)]))⟩,
   ⟨(some 4), .mv (.t 19), none, none⟩])
  (.seq (.reg none [
   ⟨(some 20), .mmk, none, none⟩,
   ⟨(some 21), .mv (.t 4), none, none⟩,
   ⟨(some 22), .idxA 1 (.t 21) (.c (.v (.int .i64 0))), none, none⟩,
   ⟨(some 23), .load none (.t 22), none, none⟩,
   ⟨none, .mset (.int .i64) (.t 20) (.t 23) (.c (.v (.int .i64 0))), none, none⟩,
   ⟨(some 24), .mv (.t 20), none, none⟩,
   ⟨(some 5), .mv (.t 24), none, none⟩])
  (.seq (.reg none [
   ⟨(some 25), .bslice 1 1 (.v (.int .i64 0)) [(0, (.c (.v (.int .i64 0))))], none, none⟩,
   ⟨(some 6), .mv (.t 25), none, none⟩])
  (.seq (.reg none [
   ⟨(some 26), .fieldA 0 (.t 1), none, none⟩,
   ⟨(some 27), .load none (.t 26), none, none⟩,
   ⟨(some 28), .build (.agg [(.v (.int .i64 0)), (.sl true []), (.sl true [])]) [(0, 1)] [(0, (.t 27))], none, none⟩,
   ⟨(some 7), .alloc (.agg [(.v (.int .i64 0)), (.sl true []), (.sl true [])]) 3, none, none⟩,
   ⟨none, .store 3 (.t 7) (.t 28), none, none⟩])
  (.seq (.seq (.reg none [
   ⟨(some 8), .mv (.c (.v (.int .i64 0))), none, none⟩])
  c_lo_out)
  c_lo_fin)))))))
def natI (l : List Nat) : List Int := l.map fun (q : Nat) => (q : Int)
theorem natI_len (l : List Nat) : (natI l).length = l.length := by simp [natI]
theorem natI_snoc (l : List Nat) (q : Nat) : natI (l ++ [q]) = natI l ++ [(q : Int)] := by simp [natI]
theorem natI_get {l : List Nat} {i q : Nat} (h : l[i]? = some q) : (natI l)[i]? = some (q : Int) := by simp [natI, h]
theorem keyI : KeyOk (.int .i64) (fun _ : Int => True) encI :=
  ⟨fun _ => rfl, fun x y _ _ => by
    have : keyEq (encI x) (encI y) = (x == y) := rfl
    rw [this]; by_cases h : x = y
    · subst h; simp
    · simp [h]⟩
def lstZ (d : Det) : Det × Int := if rightD d = true then (leastD d, 0) else (⟨0, [], []⟩, 1)
abbrev LoS := (List Int × List Int × List (List Int) × List Bool) × (Bool × Bool × Bool)
def loI (d : Det) (c : List Int) (i : Nat) (s : LoS) : Prop := s.1 = (natI (lsF d c i).1, (lsF d c i).1.map (clsN c), (lsF d c i).2) ∧ ∀ m, m < i → m < (lsF d c m).1.length
def loA0 (c : List Int) (i : Nat) (os : List Int) (o : Bool) : List (Nat × AV) := [(1, .ptr 0 0 0), (2, .ptr 1 0 0), (4, encIs c), (5, .mp 3), (6, vV o 4 (os.map encI)), (7, .ptr 2 0 0), (8, encI i)]
def loG0 (d : Det) (os ks : List Int) (nx : List (List Int)) (en : List Bool) (o oN oE : Bool) : List (Nat × Option Blk) :=
  [(0, some (.arr 3 [encDet d])), (1, some (.arr 3 [zDet])), (2, some (.arr 3 [.agg [encI d.signs, vV oN 5 (nx.map encIs), vV oE 6 (en.map encB)]])), (3, some (.map (entsG encI 0 ks))), (4, vB o 1 (os.map encI)), (5, vB oN 1 (nx.map encIs)), (6, vB oE 1 (en.map encB))]
def loA (c : List Int) (i : Nat) (s : LoS) : List (Nat × AV) := loA0 c i s.1.1 s.2.1
def loG (d : Det) (_ : Nat) (s : LoS) : List (Nat × Option Blk) := loG0 d s.1.1 s.1.2.1 s.1.2.2.1 s.1.2.2.2 s.2.1 s.2.2.1 s.2.2.2
abbrev LrS := (List Int × List Int × List Int) × Bool
def lrI (d : Det) (c : List Int) (q : Nat) (one : List Nat) (k : Nat) (s : LrS) : Prop :=
  s.1.1 = natI (lrow c (fun s => stepD d q s) k one).1 ∧ s.1.2.1 = (lrow c (fun s => stepD d q s) k one).1.map (clsN c) ∧ s.1.2.2.length = d.signs.toNat ∧ s.1.2.2.take k = (lrow c (fun s => stepD d q s) k one).2
def lrA (d : Det) (c : List Int) (i : Nat) (row : List Int) (k : Nat) (s : LrS) : List (Nat × AV) := (9, .own 7 0 d.signs.toNat) :: (45, encIs row) :: (46, encI d.signs) :: (47, encI k) :: loA0 c i s.1.1 s.2
def lrG (d : Det) (nx : List (List Int)) (en : List Bool) (oN oE : Bool) (_ : Nat) (s : LrS) : List (Nat × Option Blk) := (7, some (.arr 1 (s.1.2.2.map encI))) :: loG0 d s.1.1 s.1.2.1 nx en s.2 oN oE
theorem RenL_setI {gF : Nat → Option Blk} {R : Nat → Nat → Prop} (rw_ : List Int) (k : Nat) (v : Int) : RenL gF R ((List.map encI rw_).set k (.v (.int .i64 v))) ((List.map encI rw_).set k (.v (.int .i64 v))) := by
  have : (List.map encI rw_).set k (.v (.int .i64 v)) = List.map encI (rw_.set k v) := by rw [List.map_set]; rfl
  rw [this]; exact RenL.cl (Z19 _)
theorem take_setI (l : List Int) (k : Nat) (v : Int) (h : k < l.length) : (l.set k v).take (k + 1) = l.take k ++ [v] := by
  rw [List.take_succ_eq_append_getElem (by simpa using h), List.take_set_of_le (Nat.le_refl _)]; simp
theorem least_Of_body {P : Program} {fr fc : FuncId} {d : Det} (hr : PureC P fr [encDet d] (encB (rightD d))) (hc : RightD d → PureC P fc [encDet d] (encIs (classesD d))) :
    AWb P 0 (c_least_Of fr fc) (RetC [.c 2 (some 3), .t 3] (FzK (encDE (lstZ d)))) (argF [encDet d]) S0 := by
  have ed : (encDet d).cells = [encI d.signs, encIss d.next, encBs d.fin] := rfl
  simp [AWb_seq, Z0m, Z0n, Z0j, Z0k, Z0r, Z0l, Z0p, Z0q, Z0o, Z21, Z20, Z22, Z23, Z3d, Z3e, Z3a, vIdx, Z4x, Z4w, Z4y, vApp, Z4u, Z3u, Z11, Z10, Z0z, Z0x, Z0w, Z0y, Z17, Z16, Z15, Z13, Z12, Z14, Z2c, Z2d, Z2a, Z2n, Z31, Z30, Z07, Z08, Z06, Z01, Z02, Z00, Z04, Z05, Z03, Z1z, Z1y, Z46, Z48, Z47, Z45, Z1n, Z1o, Z1m, Z3n, Z3k, Z3m, Z3l, Z3o, Z1l, Z29, Z32, Z3x, Z1i, Z1j, Z1k, Z3v, Z3w, Z1g, Z28, Z1h, Z3i, Z3f, Z3h, Z3g, Z3j, Z41, Z40, Z0t, Z0u, Z0v, Z0s, Z1f, Z4c, Z4b, Z4d, Z4a, Z49, ex, Z43, Z42, ev_t, ev_c, Z27, Z26, Z4e, Z4f, Z2m, Z2l, Z2f, Z2j, Z2k, Z2g, Z2h, Z2i, putc, exBslice, lfill, exField, exIdxV, exIdxP, exBox, exAlloc, Z3b, Z3c, exStore, exFieldA, Z34, Z33, Z39, Z38, exPick, exUn, exBeq, exMM, exSeq, seqGo, exExt, binV, intOp, subc, Z4s, Z4r, Z4p, Z4q, Z4n, Z4l, Z4m, Z4o, Z4i, Z4j, Z4g, Z4t, S0, encI, encB, Z4k, Z2e, Z25, Z4h, Z2b, Z24, Z36, Z37, Z35, Z3s, Z3t, Z3r, Z3p, Z3q, idxT_Bs, c_least_Of]
  refine CallR.pure hr (cl_cons (closed_Det d) cl_nil) (Z2o _) ?_
  cases hb : rightD d with
  | false =>
    have hz : lstZ d = (⟨0, [], []⟩, 1) := by simp [lstZ, hb]
    rw [hz]
    simp [AWb_seq, Z0m, Z0n, Z0j, Z0k, Z0r, Z0l, Z0p, Z0q, Z0o, Z21, Z20, Z22, Z23, Z3d, Z3e, Z3a, vIdx, Z4x, Z4w, Z4y, vApp, Z4u, Z3u, Z11, Z10, Z0z, Z0x, Z0w, Z0y, Z17, Z16, Z15, Z13, Z12, Z14, Z2c, Z2d, Z2a, Z2n, Z31, Z30, Z07, Z08, Z06, Z01, Z02, Z00, Z04, Z05, Z03, Z1z, Z1y, Z46, Z48, Z47, Z45, Z1n, Z1o, Z1m, Z3n, Z3k, Z3m, Z3l, Z3o, Z1l, Z29, Z32, Z3x, Z1i, Z1j, Z1k, Z3v, Z3w, Z1g, Z28, Z1h, Z3i, Z3f, Z3h, Z3g, Z3j, Z41, Z40, Z0t, Z0u, Z0v, Z0s, Z1f, Z4c, Z4b, Z4d, Z4a, Z49, ex, Z43, Z42, ev_t, ev_c, Z27, Z26, Z4e, Z4f, Z2m, Z2l, Z2f, Z2j, Z2k, Z2g, Z2h, Z2i, putc, exBslice, lfill, exField, exIdxV, exIdxP, exBox, exAlloc, Z3b, Z3c, exStore, exFieldA, Z34, Z33, Z39, Z38, exPick, exUn, exBeq, exMM, exSeq, seqGo, exExt, binV, intOp, subc, Z4s, Z4r, Z4p, Z4q, Z4n, Z4l, Z4m, Z4o, Z4i, Z4j, Z4g, Z4t, S0, encI, encB, Z4k, Z2e, Z25, Z4h, Z2b, Z24, Z36, Z37, Z35, Z3s, Z3t, Z3r, Z3p, Z3q, idxT_Bs, RetC, evC, RV.ev, ldC, packC, exBuild, afill]
    exact fz_zDet _ 1
  | true =>
    have R := (right_iff d).mp hb
    have hz : lstZ d = (leastD d, 0) := by simp [lstZ, hb]
    rw [hz]
    have C := classesD_ok R
    have hn1 := R.n1
    have hn2 := R.n2
    have hs1 := R.s1
    have hs2 := R.s2
    have hcl := C.len
    have hc0 : (0 : Nat) < (classesD d).length := by omega
    simp [AWb_seq, Z0m, Z0n, Z0j, Z0k, Z0r, Z0l, Z0p, Z0q, Z0o, Z21, Z20, Z22, Z23, Z3d, Z3e, Z3a, vIdx, Z4x, Z4w, Z4y, vApp, Z4u, Z3u, Z11, Z10, Z0z, Z0x, Z0w, Z0y, Z17, Z16, Z15, Z13, Z12, Z14, Z2c, Z2d, Z2a, Z2n, Z31, Z30, Z07, Z08, Z06, Z01, Z02, Z00, Z04, Z05, Z03, Z1z, Z1y, Z46, Z48, Z47, Z45, Z1n, Z1o, Z1m, Z3n, Z3k, Z3m, Z3l, Z3o, Z1l, Z29, Z32, Z3x, Z1i, Z1j, Z1k, Z3v, Z3w, Z1g, Z28, Z1h, Z3i, Z3f, Z3h, Z3g, Z3j, Z41, Z40, Z0t, Z0u, Z0v, Z0s, Z1f, Z4c, Z4b, Z4d, Z4a, Z49, ex, Z43, Z42, ev_t, ev_c, Z27, Z26, Z4e, Z4f, Z2m, Z2l, Z2f, Z2j, Z2k, Z2g, Z2h, Z2i, putc, exBslice, lfill, exField, exIdxV, exIdxP, exBox, exAlloc, Z3b, Z3c, exStore, exFieldA, Z34, Z33, Z39, Z38, exPick, exUn, exBeq, exMM, exSeq, seqGo, exExt, binV, intOp, subc, Z4s, Z4r, Z4p, Z4q, Z4n, Z4l, Z4m, Z4o, Z4i, Z4j, Z4g, Z4t, S0, encI, encB, Z4k, Z2e, Z25, Z4h, Z2b, Z24, Z36, Z37, Z35, Z3s, Z3t, Z3r, Z3p, Z3q, idxT_Bs]
    refine CallR.pure (hc R) (cl_cons (closed_Det d) cl_nil) (Z2s _) ?_
    have hspec := leastS_spec R
    have hlD : leastD d = ⟨d.signs, (leastS d).2.1, (leastS d).2.2⟩ := rfl
    generalize hcc : classesD d = c at *
    have hmset0 := fun (km nid : Nat) (S : St) (hg : S.g km = some (.map [])) => msetG (ks := []) (x := c[0]) (nid := nid) keyI trivial (by simp) (by simp) hg
    simp [entsG, encI] at hmset0
    simp [AWb_seq, Z0m, Z0n, Z0j, Z0k, Z0r, Z0l, Z0p, Z0q, Z0o, Z21, Z20, Z22, Z23, Z3d, Z3e, Z3a, vIdx, Z4x, Z4w, Z4y, vApp, Z4u, Z3u, Z11, Z10, Z0z, Z0x, Z0w, Z0y, Z17, Z16, Z15, Z13, Z12, Z14, Z2c, Z2d, Z2a, Z2n, Z31, Z30, Z07, Z08, Z06, Z01, Z02, Z00, Z04, Z05, Z03, Z1z, Z1y, Z46, Z48, Z47, Z45, Z1n, Z1o, Z1m, Z3n, Z3k, Z3m, Z3l, Z3o, Z1l, Z29, Z32, Z3x, Z1i, Z1j, Z1k, Z3v, Z3w, Z1g, Z28, Z1h, Z3i, Z3f, Z3h, Z3g, Z3j, Z41, Z40, Z0t, Z0u, Z0v, Z0s, Z1f, Z4c, Z4b, Z4d, Z4a, Z49, ex, Z43, Z42, ev_t, ev_c, Z27, Z26, Z4e, Z4f, Z2m, Z2l, Z2f, Z2j, Z2k, Z2g, Z2h, Z2i, putc, exBslice, lfill, exField, exIdxV, exIdxP, exBox, exAlloc, Z3b, Z3c, exStore, exFieldA, Z34, Z33, Z39, Z38, exPick, exUn, exBeq, exMM, exSeq, seqGo, exExt, binV, intOp, subc, Z4s, Z4r, Z4p, Z4q, Z4n, Z4l, Z4m, Z4o, Z4i, Z4j, Z4g, Z4t, S0, encI, encB, Z4k, Z2e, Z25, Z4h, Z2b, Z24, Z36, Z37, Z35, Z3s, Z3t, Z3r, Z3p, Z3q, idxT_Bs, exMmk, hc0, hmset0, exBuild, afill, c_lo_out]
    refine AWb_for (d.next.length + 1) (loI d c) (loA c) 10 (loG d) (([0], [clsN c 0], [], []), (false, false, false)) ⟨rfl, fun m hm => by omega⟩ ?_ ?_
    · refine Abs.of [(0, 0), (1, 1), (2, 21), (3, 9)] [] (by omega) ⟨by simp, by simp⟩ ?_ ?_
      · simp [RenL_snoc, RenL.cl, RenV.cl, Z2r, Z2o, Z2s, Z2t, Z2p, Z2v, Z2u, Z2q, Z2w, Z2x, Z1d, Z1c, Z1b, Z19, Z18, Z1a, Z1e, Z52, Z4v, Z4z, Z3y, Z51, Z50, Z3z, Z1p, Z1q, Z1x, Z1v, Z1w, Z1u, Z1t, Z1s, Z1r, Z44, Z43, Z42, Z4e, Z4f, Z22, Z23, Z3d, Z3e, Z27, Z26, vV_t, vV_f, vB_t, vB_f, encI, encB, loG, loG0, zDet, closed_Det, entsG]
        have hc00 : c[0] = clsN c 0 := by rw [clsN, List.getD_eq_getElem?_getD, List.getElem?_eq_getElem hc0]; rfl
        rw [hc00]
        exact map_ren (CloM_G (enc := encI) Z2r [clsN c 0] 0)
      · simp [RenL_snoc, RenL.cl, RenV.cl, Z2r, Z2o, Z2s, Z2t, Z2p, Z2v, Z2u, Z2q, Z2w, Z2x, Z1d, Z1c, Z1b, Z19, Z18, Z1a, Z1e, Z52, Z4v, Z4z, Z3y, Z51, Z50, Z3z, Z1p, Z1q, Z1x, Z1v, Z1w, Z1u, Z1t, Z1s, Z1r, Z44, Z43, Z42, Z4e, Z4f, Z22, Z23, Z3d, Z3e, Z27, Z26, vV_t, vV_f, vB_t, vB_f, encI, encB, loA, loA0]
        exact .cl (.sl _ _ (cl_cons (Z2r _) cl_nil))
    · rintro i ⟨⟨os, ks, nx, en⟩, oo, oN, oE⟩ hi ⟨heq, hmin⟩
      simp only [Prod.mk.injEq] at heq
      obtain ⟨ho, hk, hne⟩ := heq
      have ok := lst_ok R c i hmin
      have hle := ok.le
      have hlen := ok.len
      have hnd := ok.nd
      generalize hst : lsF d c i = st at *
      obtain ⟨one, nx', en'⟩ := st
      simp only [Prod.mk.injEq] at ho hk hne hle hlen hnd
      obtain ⟨rfl, rfl⟩ := hne
      have hol : os.length = one.length := by rw [ho, natI_len]
      by_cases hlt : i < one.length
      · obtain ⟨q, hq⟩ : ∃ q, one[i]? = some q := ⟨_, List.getElem?_eq_getElem hlt⟩
        have hqn : q < d.next.length := ok.lt q (by obtain ⟨h1, h2⟩ := List.getElem?_eq_some_iff.mp hq; rw [← h2]; exact List.getElem_mem h1)
        have hoi : i < os.length := by omega
        have hoq : os[i]? = some (q : Int) := by rw [ho]; exact natI_get hq
        obtain ⟨_, hoq2⟩ := List.getElem?_eq_some_iff.mp hoq
        have hrl : ((d.next[q]).length : Int) = d.signs := R.row q hqn
        have hsa := fun (k : Nat) (h : (k : Int) < d.signs) => step_at R hqn (s := (k : Int)) (by omega) h
        have hgq : d.next.getD q [] = d.next[q] := by rw [List.getD_eq_getElem?_getD, List.getElem?_eq_getElem hqn]; rfl
        have hfl : q < d.fin.length := by have := R.fin; omega
        have hfb : d.fin[q] = finB d q := by rw [finB, List.getD_eq_getElem?_getD, List.getElem?_eq_getElem hfl]; rfl
        have hoI : (i : Int) < os.length := by omega
        have hm0 : (0 : Int) ≤ d.signs := by omega
        have hmk : 8 * d.signs ≤ 281474976710656 := by omega
        have hmk2 : d.signs ≤ 9223372036854775807 := by omega
        have hnx : lsF d c (i + 1) = ((lrow c (fun s => stepD d q s) d.signs.toNat one).1, nx ++ [(lrow c (fun s => stepD d q s) d.signs.toNat one).2], en ++ [finB d q]) := by
          simp only [lsF, hst, lnx, hq]
        generalize hrow : d.next[q] = row at *
        simp [AWb_seq, Z0m, Z0n, Z0j, Z0k, Z0r, Z0l, Z0p, Z0q, Z0o, Z21, Z20, Z22, Z23, Z3d, Z3e, Z3a, vIdx, Z4x, Z4w, Z4y, vApp, Z4u, Z3u, Z11, Z10, Z0z, Z0x, Z0w, Z0y, Z17, Z16, Z15, Z13, Z12, Z14, Z2c, Z2d, Z2a, Z2n, Z31, Z30, Z07, Z08, Z06, Z01, Z02, Z00, Z04, Z05, Z03, Z1z, Z1y, Z46, Z48, Z47, Z45, Z1n, Z1o, Z1m, Z3n, Z3k, Z3m, Z3l, Z3o, Z1l, Z29, Z32, Z3x, Z1i, Z1j, Z1k, Z3v, Z3w, Z1g, Z28, Z1h, Z3i, Z3f, Z3h, Z3g, Z3j, Z41, Z40, Z0t, Z0u, Z0v, Z0s, Z1f, Z4c, Z4b, Z4d, Z4a, Z49, ex, Z43, Z42, ev_t, ev_c, Z27, Z26, Z4e, Z4f, Z2m, Z2l, Z2f, Z2j, Z2k, Z2g, Z2h, Z2i, putc, exBslice, lfill, exField, exIdxV, exIdxP, exBox, exAlloc, Z3b, Z3c, exStore, exFieldA, Z34, Z33, Z39, Z38, exPick, exUn, exBeq, exMM, exSeq, seqGo, exExt, binV, intOp, subc, Z4s, Z4r, Z4p, Z4q, Z4n, Z4l, Z4m, Z4o, Z4i, Z4j, Z4g, Z4t, S0, encI, encB, Z4k, Z2e, Z25, Z4h, Z2b, Z24, Z36, Z37, Z35, Z3s, Z3t, Z3r, Z3p, Z3q, idxT_Bs, loA, loA0, loG, loG0, hoI, exMks, hm0, hmk, hmk2, hoi, hoq, hoq2, hqn, hrl, hrow, c_lo_row]
        refine AWb_for d.signs.toNat (lrI d c q one) (lrA d c i row) 10 (lrG d nx en oN oE) ((os, ks, List.replicate d.signs.toNat 0), oo) ⟨ho, hk, by simp, by simp [lrow]⟩ ?_ ?_
        · refine Abs.of [(0, 0), (1, 1), (2, 2), (3, 3), (4, 4), (5, 5), (6, 6), (7, 16)] [] (by omega) ⟨by simp, by simp⟩ ?_ ?_
          · simp [RenL_snoc, RenL.cl, RenV.cl, Z2r, Z2o, Z2s, Z2t, Z2p, Z2v, Z2u, Z2q, Z2w, Z2x, Z1d, Z1c, Z1b, Z19, Z18, Z1a, Z1e, Z52, Z4v, Z4z, Z3y, Z51, Z50, Z3z, Z1p, Z1q, Z1x, Z1v, Z1w, Z1u, Z1t, Z1s, Z1r, Z44, Z43, Z42, Z4e, Z4f, Z22, Z23, Z3d, Z3e, Z27, Z26, vV_t, vV_f, vB_t, vB_f, encI, encB, lrG, loG0, zDet, closed_Det]
            exact map_ren (CloM_G Z2r _ _)
          · simp [RenL_snoc, RenL.cl, RenV.cl, Z2r, Z2o, Z2s, Z2t, Z2p, Z2v, Z2u, Z2q, Z2w, Z2x, Z1d, Z1c, Z1b, Z19, Z18, Z1a, Z1e, Z52, Z4v, Z4z, Z3y, Z51, Z50, Z3z, Z1p, Z1q, Z1x, Z1v, Z1w, Z1u, Z1t, Z1s, Z1r, Z44, Z43, Z42, Z4e, Z4f, Z22, Z23, Z3d, Z3e, Z27, Z26, vV_t, vV_f, vB_t, vB_f, encI, encB, lrA, loA0]
        · rintro k ⟨⟨os1, ks1, rw⟩, o1⟩ hkn ⟨h1, h2, h3, h4⟩
          simp only at h1 h2 h3 h4
          have hro := lrow_ok (c := c) (t := fun s => stepD d q s) hnd k
          have hlr : lrow c (fun s => stepD d q s) (k + 1) one = ((lnum c (lrow c (fun s => stepD d q s) k one).1 (stepD d q k)).1, (lrow c (fun s => stepD d q s) k one).2 ++ [((lnum c (lrow c (fun s => stepD d q s) k one).1 (stepD d q k)).2 : Int)]) := rfl
          generalize hp : lrow c (fun s => stepD d q s) k one = p at *
          obtain ⟨one1, r⟩ := p
          simp only at h1 h2 h4 hlr hro
          have hol1 : os1.length = one1.length := by rw [h1, natI_len]
          have hkl1 : ks1.length = one1.length := by rw [h2, List.length_map]
          have hle1 : one1.length ≤ d.next.length := by
            refine nodup_le _ _ ((List.pairwise_map.mp hro.nd).imp (fun h e => h (congrArg _ e))) (fun x hx => ?_)
            rcases hro.new x hx with h | ⟨s, hs, rfl⟩
            · exact ok.lt x h
            · exact step_lt R hqn (by omega) (by omega)
          by_cases hkl : (k : Int) < d.signs
          · obtain ⟨hj, hs1, hs2⟩ := hsa k hkl
            have hkn' : k < d.signs.toNat := by omega
            have hkr : k < row.length := by omega
            have hs3 : row[k] = (stepD d q k : Int) := hs1
            generalize ht : stepD d q k = t at *
            have htc : t < c.length := by omega
            have hct : c[t] = clsN c t := by rw [clsN, List.getD_eq_getElem?_getD, List.getElem?_eq_getElem htc]; rfl
            have hkw : k < rw.length := by omega
            have hkm : (k : Int) < max d.signs 0 := by omega
            have hrw : d.signs ≤ rw.length := by omega
            have hlook := fun (km nid : Nat) (S : St) (hg : S.g km = some (.map (entsG encI 0 ks1))) => lookG (x := clsN c t) (nid := nid) keyI trivial (fun _ _ => trivial) hg
            simp only [encI] at hlook
            have hok : appOk 8 os1.length 1 := by unfold appOk; omega
            by_cases hin : clsN c t ∈ ks1
            · have hln : lnum c one1 t = (one1, ks1.idxOf (clsN c t)) := by rw [lnum, ← h2, if_pos hin]
              rw [hln] at hlr
              simp [AWb_seq, Z0m, Z0n, Z0j, Z0k, Z0r, Z0l, Z0p, Z0q, Z0o, Z21, Z20, Z22, Z23, Z3d, Z3e, Z3a, vIdx, Z4x, Z4w, Z4y, vApp, Z4u, Z3u, Z11, Z10, Z0z, Z0x, Z0w, Z0y, Z17, Z16, Z15, Z13, Z12, Z14, Z2c, Z2d, Z2a, Z2n, Z31, Z30, Z07, Z08, Z06, Z01, Z02, Z00, Z04, Z05, Z03, Z1z, Z1y, Z46, Z48, Z47, Z45, Z1n, Z1o, Z1m, Z3n, Z3k, Z3m, Z3l, Z3o, Z1l, Z29, Z32, Z3x, Z1i, Z1j, Z1k, Z3v, Z3w, Z1g, Z28, Z1h, Z3i, Z3f, Z3h, Z3g, Z3j, Z41, Z40, Z0t, Z0u, Z0v, Z0s, Z1f, Z4c, Z4b, Z4d, Z4a, Z49, ex, Z43, Z42, ev_t, ev_c, Z27, Z26, Z4e, Z4f, Z2m, Z2l, Z2f, Z2j, Z2k, Z2g, Z2h, Z2i, putc, exBslice, lfill, exField, exIdxV, exIdxP, exBox, exAlloc, Z3b, Z3c, exStore, exFieldA, Z34, Z33, Z39, Z38, exPick, exUn, exBeq, exMM, exSeq, seqGo, exExt, binV, intOp, subc, Z4s, Z4r, Z4p, Z4q, Z4n, Z4l, Z4m, Z4o, Z4i, Z4j, Z4g, Z4t, S0, encI, encB, Z4k, Z2e, Z25, Z4h, Z2b, Z24, Z36, Z37, Z35, Z3s, Z3t, Z3r, Z3p, Z3q, idxT_Bs, lrA, loA0, lrG, loG0, hkl, hkr, hs3, htc, hct, hlook, hin, hkw, hkm, hrw]
              rw [wrap_in _ (by omega)]
              refine ⟨hkn', ((os1, ks1, rw.set k (ks1.idxOf (clsN c t))), o1), ⟨by rw [hlr]; exact h1, by rw [hlr]; exact h2, by simpa using h3, ?_⟩, Abs.of [(0, 0), (1, 1), (2, 2), (3, 3), (4, 4), (5, 5), (6, 6), (7, 7)] [] (by omega) ⟨by simp, by simp⟩ ?_ ?_⟩
              · simp only; rw [hlr, take_setI _ _ _ hkw, h4]
              · simp [RenL_snoc, RenL.cl, RenV.cl, Z2r, Z2o, Z2s, Z2t, Z2p, Z2v, Z2u, Z2q, Z2w, Z2x, Z1d, Z1c, Z1b, Z19, Z18, Z1a, Z1e, Z52, Z4v, Z4z, Z3y, Z51, Z50, Z3z, Z1p, Z1q, Z1x, Z1v, Z1w, Z1u, Z1t, Z1s, Z1r, Z44, Z43, Z42, Z4e, Z4f, Z22, Z23, Z3d, Z3e, Z27, Z26, vV_t, vV_f, vB_t, vB_f, encI, encB, lrG, loG0, zDet, closed_Det]
                exact ⟨RenL_setI _ _ _, map_ren (CloM_G Z2r _ _)⟩
              · simp [RenL_snoc, RenL.cl, RenV.cl, Z2r, Z2o, Z2s, Z2t, Z2p, Z2v, Z2u, Z2q, Z2w, Z2x, Z1d, Z1c, Z1b, Z19, Z18, Z1a, Z1e, Z52, Z4v, Z4z, Z3y, Z51, Z50, Z3z, Z1p, Z1q, Z1x, Z1v, Z1w, Z1u, Z1t, Z1s, Z1r, Z44, Z43, Z42, Z4e, Z4f, Z22, Z23, Z3d, Z3e, Z27, Z26, vV_t, vV_f, vB_t, vB_f, encI, encB, lrA, loA0]
            · have hln : lnum c one1 t = (one1 ++ [t], one1.length) := by rw [lnum, ← h2, if_neg hin]
              rw [hln] at hlr
              have hmset := fun (km nid : Nat) (S : St) (hg : S.g km = some (.map (entsG encI 0 ks1))) => msetG (x := clsN c t) (nid := nid) keyI trivial (fun _ _ => trivial) hin hg
              simp only [encI, hkl1, ← hol1] at hmset
              simp [AWb_seq, Z0m, Z0n, Z0j, Z0k, Z0r, Z0l, Z0p, Z0q, Z0o, Z21, Z20, Z22, Z23, Z3d, Z3e, Z3a, vIdx, Z4x, Z4w, Z4y, vApp, Z4u, Z3u, Z11, Z10, Z0z, Z0x, Z0w, Z0y, Z17, Z16, Z15, Z13, Z12, Z14, Z2c, Z2d, Z2a, Z2n, Z31, Z30, Z07, Z08, Z06, Z01, Z02, Z00, Z04, Z05, Z03, Z1z, Z1y, Z46, Z48, Z47, Z45, Z1n, Z1o, Z1m, Z3n, Z3k, Z3m, Z3l, Z3o, Z1l, Z29, Z32, Z3x, Z1i, Z1j, Z1k, Z3v, Z3w, Z1g, Z28, Z1h, Z3i, Z3f, Z3h, Z3g, Z3j, Z41, Z40, Z0t, Z0u, Z0v, Z0s, Z1f, Z4c, Z4b, Z4d, Z4a, Z49, ex, Z43, Z42, ev_t, ev_c, Z27, Z26, Z4e, Z4f, Z2m, Z2l, Z2f, Z2j, Z2k, Z2g, Z2h, Z2i, putc, exBslice, lfill, exField, exIdxV, exIdxP, exBox, exAlloc, Z3b, Z3c, exStore, exFieldA, Z34, Z33, Z39, Z38, exPick, exUn, exBeq, exMM, exSeq, seqGo, exExt, binV, intOp, subc, Z4s, Z4r, Z4p, Z4q, Z4n, Z4l, Z4m, Z4o, Z4i, Z4j, Z4g, Z4t, S0, encI, encB, Z4k, Z2e, Z25, Z4h, Z2b, Z24, Z36, Z37, Z35, Z3s, Z3t, Z3r, Z3p, Z3q, idxT_Bs, lrA, loA0, lrG, loG0, hkl, hkr, hs3, htc, hct, hlook, hin, hkw, hmset, hok, hkm, hrw]
              rw [wrap_in _ (by omega)]
              refine ⟨hkn', ((os1 ++ [(t : Int)], ks1 ++ [clsN c t], rw.set k os1.length), true), ⟨by rw [hlr]; simp only; rw [natI_snoc, h1], by rw [hlr]; simp only; rw [List.map_append, h2]; rfl, by simpa using h3, ?_⟩, Abs.of [(0, 0), (1, 1), (2, 2), (3, 3), (4, 42), (5, 5), (6, 6), (7, 7)] [] (by omega) ⟨by simp, by simp⟩ ?_ ?_⟩
              · simp only; rw [hlr, take_setI _ _ _ hkw, h4, hol1]
              · simp [RenL_snoc, RenL.cl, RenV.cl, Z2r, Z2o, Z2s, Z2t, Z2p, Z2v, Z2u, Z2q, Z2w, Z2x, Z1d, Z1c, Z1b, Z19, Z18, Z1a, Z1e, Z52, Z4v, Z4z, Z3y, Z51, Z50, Z3z, Z1p, Z1q, Z1x, Z1v, Z1w, Z1u, Z1t, Z1s, Z1r, Z44, Z43, Z42, Z4e, Z4f, Z22, Z23, Z3d, Z3e, Z27, Z26, vV_t, vV_f, vB_t, vB_f, encI, encB, lrG, loG0, zDet, closed_Det]
                exact ⟨RenL_setI _ _ _, map_ren (CloM_G Z2r _ _)⟩
              · simp [RenL_snoc, RenL.cl, RenV.cl, Z2r, Z2o, Z2s, Z2t, Z2p, Z2v, Z2u, Z2q, Z2w, Z2x, Z1d, Z1c, Z1b, Z19, Z18, Z1a, Z1e, Z52, Z4v, Z4z, Z3y, Z51, Z50, Z3z, Z1p, Z1q, Z1x, Z1v, Z1w, Z1u, Z1t, Z1s, Z1r, Z44, Z43, Z42, Z4e, Z4f, Z22, Z23, Z3d, Z3e, Z27, Z26, vV_t, vV_f, vB_t, vB_f, encI, encB, lrA, loA0]
          · have hke : k = d.signs.toNat := by omega
            have hrr : rw = r := by rw [← h4, hke, ← h3, List.take_length]
            have hokx : appOk 24 nx.length 1 := by have := ok.nx; simp only at this; unfold appOk; omega
            have hoke : appOk 1 en.length 1 := by have := ok.en; simp only at this; unfold appOk; omega
            have hpre := hro.pre i q hq
            have hoi1 : i < os1.length := by rw [hol1]; exact (List.getElem?_eq_some_iff.mp hpre).1
            have hoq1 : os1[i]? = some (q : Int) := by rw [h1]; exact natI_get hpre
            obtain ⟨_, hoq3⟩ := List.getElem?_eq_some_iff.mp hoq1
            simp [AWb_seq, Z0m, Z0n, Z0j, Z0k, Z0r, Z0l, Z0p, Z0q, Z0o, Z21, Z20, Z22, Z23, Z3d, Z3e, Z3a, vIdx, Z4x, Z4w, Z4y, vApp, Z4u, Z3u, Z11, Z10, Z0z, Z0x, Z0w, Z0y, Z17, Z16, Z15, Z13, Z12, Z14, Z2c, Z2d, Z2a, Z2n, Z31, Z30, Z07, Z08, Z06, Z01, Z02, Z00, Z04, Z05, Z03, Z1z, Z1y, Z46, Z48, Z47, Z45, Z1n, Z1o, Z1m, Z3n, Z3k, Z3m, Z3l, Z3o, Z1l, Z29, Z32, Z3x, Z1i, Z1j, Z1k, Z3v, Z3w, Z1g, Z28, Z1h, Z3i, Z3f, Z3h, Z3g, Z3j, Z41, Z40, Z0t, Z0u, Z0v, Z0s, Z1f, Z4c, Z4b, Z4d, Z4a, Z49, ex, Z43, Z42, ev_t, ev_c, Z27, Z26, Z4e, Z4f, Z2m, Z2l, Z2f, Z2j, Z2k, Z2g, Z2h, Z2i, putc, exBslice, lfill, exField, exIdxV, exIdxP, exBox, exAlloc, Z3b, Z3c, exStore, exFieldA, Z34, Z33, Z39, Z38, exPick, exUn, exBeq, exMM, exSeq, seqGo, exExt, binV, intOp, subc, Z4s, Z4r, Z4p, Z4q, Z4n, Z4l, Z4m, Z4o, Z4i, Z4j, Z4g, Z4t, S0, encI, encB, Z4k, Z2e, Z25, Z4h, Z2b, Z24, Z36, Z37, Z35, Z3s, Z3t, Z3r, Z3p, Z3q, idxT_Bs, lrA, loA0, lrG, loG0, hkl, hoi1, hoq1, hoq3, hqn, hfl, hfb, hokx, hoke, hrow, c_lo_add]
            rw [wrap_in _ (by omega)]
            refine ⟨by rintro j (⟨_, rfl⟩ | rfl) <;> simp, by rintro j (⟨_, rfl⟩ | rfl) <;> simp, by rintro j (⟨_, rfl⟩ | rfl) <;> simp, by omega, ((os1, ks1, nx ++ [rw], en ++ [finB d q]), (o1, true, true)), ⟨?_, fun m hm => ?_⟩, Abs.of [(0, 0), (1, 1), (2, 2), (3, 3), (4, 4), (5, 15), (6, 27)] [7] (by omega) ⟨by simp, by simp⟩ ?_ ?_⟩
            · simp only; rw [hnx, ← hke, hp, h1, h2, hrr]
            · by_cases hmi : m = i
              · subst hmi; rw [hst]; exact hlt
              · exact hmin m (by omega)
            · simp [RenL_snoc, RenL.cl, RenV.cl, Z2r, Z2o, Z2s, Z2t, Z2p, Z2v, Z2u, Z2q, Z2w, Z2x, Z1d, Z1c, Z1b, Z19, Z18, Z1a, Z1e, Z52, Z4v, Z4z, Z3y, Z51, Z50, Z3z, Z1p, Z1q, Z1x, Z1v, Z1w, Z1u, Z1t, Z1s, Z1r, Z44, Z43, Z42, Z4e, Z4f, Z22, Z23, Z3d, Z3e, Z27, Z26, vV_t, vV_f, vB_t, vB_f, encI, encB, loG, loG0, zDet, closed_Det, h3]
              exact map_ren (CloM_G Z2r _ _)
            · simp [RenL_snoc, RenL.cl, RenV.cl, Z2r, Z2o, Z2s, Z2t, Z2p, Z2v, Z2u, Z2q, Z2w, Z2x, Z1d, Z1c, Z1b, Z19, Z18, Z1a, Z1e, Z52, Z4v, Z4z, Z3y, Z51, Z50, Z3z, Z1p, Z1q, Z1x, Z1v, Z1w, Z1u, Z1t, Z1s, Z1r, Z44, Z43, Z42, Z4e, Z4f, Z22, Z23, Z3d, Z3e, Z27, Z26, vV_t, vV_f, vB_t, vB_f, encI, encB, loA, loA0]
      · have hie : i = one.length := by omega
        have hlast : leastS d = (one, nx, en) := by
          obtain ⟨k, e1, e2, e3, e4⟩ := hspec
          have hki : k = i := by
            rcases Nat.lt_trichotomy k i with h | h | h
            · have := hmin k h
              rw [← e1] at this; omega
            · exact h
            · have := e3 i h
              rw [hst] at this; simp only at this; omega
          rw [e1, hki, hst]
        rw [hlD, hlast]
        have hoI : ¬ (i : Int) < os.length := by omega
        simp [AWb_seq, Z0m, Z0n, Z0j, Z0k, Z0r, Z0l, Z0p, Z0q, Z0o, Z21, Z20, Z22, Z23, Z3d, Z3e, Z3a, vIdx, Z4x, Z4w, Z4y, vApp, Z4u, Z3u, Z11, Z10, Z0z, Z0x, Z0w, Z0y, Z17, Z16, Z15, Z13, Z12, Z14, Z2c, Z2d, Z2a, Z2n, Z31, Z30, Z07, Z08, Z06, Z01, Z02, Z00, Z04, Z05, Z03, Z1z, Z1y, Z46, Z48, Z47, Z45, Z1n, Z1o, Z1m, Z3n, Z3k, Z3m, Z3l, Z3o, Z1l, Z29, Z32, Z3x, Z1i, Z1j, Z1k, Z3v, Z3w, Z1g, Z28, Z1h, Z3i, Z3f, Z3h, Z3g, Z3j, Z41, Z40, Z0t, Z0u, Z0v, Z0s, Z1f, Z4c, Z4b, Z4d, Z4a, Z49, ex, Z43, Z42, ev_t, ev_c, Z27, Z26, Z4e, Z4f, Z2m, Z2l, Z2f, Z2j, Z2k, Z2g, Z2h, Z2i, putc, exBslice, lfill, exField, exIdxV, exIdxP, exBox, exAlloc, Z3b, Z3c, exStore, exFieldA, Z34, Z33, Z39, Z38, exPick, exUn, exBeq, exMM, exSeq, seqGo, exExt, binV, intOp, subc, Z4s, Z4r, Z4p, Z4q, Z4n, Z4l, Z4m, Z4o, Z4i, Z4j, Z4g, Z4t, S0, encI, encB, Z4k, Z2e, Z25, Z4h, Z2b, Z24, Z36, Z37, Z35, Z3s, Z3t, Z3r, Z3p, Z3q, idxT_Bs, loA, loA0, loG, loG0, hoI, c_lo_fin, RetC, evC, RV.ev, ldC, packC, zDet]
        refine .tupL (.cons (.aggL (.cons (.closed _ (.v _)) (.cons (vV_fz ?_ (Z1a _)) (.cons (vV_fz ?_ (Z18 _)) .nil)))) (.cons (.closed _ (.v _)) .nil))
        · simp [RenL_snoc, RenL.cl, RenV.cl, Z2r, Z2o, Z2s, Z2t, Z2p, Z2v, Z2u, Z2q, Z2w, Z2x, Z1d, Z1c, Z1b, Z19, Z18, Z1a, Z1e, Z52, Z4v, Z4z, Z3y, Z51, Z50, Z3z, Z1p, Z1q, Z1x, Z1v, Z1w, Z1u, Z1t, Z1s, Z1r, Z44, Z43, Z42, Z4e, Z4f, Z22, Z23, Z3d, Z3e, Z27, Z26, vV_t, vV_f, vB_t, vB_f, encI, encB]
        · simp [RenL_snoc, RenL.cl, RenV.cl, Z2r, Z2o, Z2s, Z2t, Z2p, Z2v, Z2u, Z2q, Z2w, Z2x, Z1d, Z1c, Z1b, Z19, Z18, Z1a, Z1e, Z52, Z4v, Z4z, Z3y, Z51, Z50, Z3z, Z1p, Z1q, Z1x, Z1v, Z1w, Z1u, Z1t, Z1s, Z1r, Z44, Z43, Z42, Z4e, Z4f, Z22, Z23, Z3d, Z3e, Z27, Z26, vV_t, vV_f, vB_t, vB_f, encI, encB]
end Go.Rf

