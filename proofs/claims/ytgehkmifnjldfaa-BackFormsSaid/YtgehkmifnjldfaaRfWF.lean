import Derived.Test.YtgehkmifnjldfaaRfQH
import Derived.Test.YtgehkmifnjldfaaRfK8
/- Own work: a form the other way round (the document's), and BackForms (walks). -/
set_option linter.unusedVariables false
set_option linter.unusedSimpArgs false
namespace Go.Rf
open Go.RowKit
attribute [local simp] AWb_seq Z0m Z0n Z0j Z0k Z0r Z0l Z0p Z0q Z0o Z21 Z20 Z22 Z23 Z3d Z3e Z3a vIdx Z4x Z4w Z4y vApp Z4u Z3u Z11 Z10 Z0z Z0x Z0w Z0y Z17 Z16 Z15 Z13 Z12 Z14 Z2c Z2d Z2a Z2n Z31 Z30 Z07 Z08 Z06 Z01 Z02 Z00 Z04 Z05 Z03 Z1z Z1y Z46 Z48 Z47 Z45 Z1n Z1o Z1m Z3n Z3k Z3m Z3l Z3o Z1l Z29 Z32 Z3x Z1i Z1j Z1k Z3v Z3w Z1g Z28 Z1h Z3i Z3f Z3h Z3g Z3j Z41 Z40 Z0t Z0u Z0v Z0s Z1f Z4c Z4b Z4d Z4a Z49 ex Z43 Z42 ev_t ev_c Z27 Z26 Z4e Z4f Z2m Z2l Z2f Z2j Z2k Z2g Z2h Z2i putc exBslice lfill exField exIdxV exIdxP exBox exAlloc Z3b Z3c exStore exFieldA Z34 Z33 Z39 Z38 exPick exUn exBeq exMM exSeq seqGo exExt binV intOp subc Z4s Z4r Z4p Z4q Z4n Z4l Z4m Z4o Z4i Z4j Z4g Z4t S0 encI encB Z4k Z2e Z25 Z4h Z2b Z24 Z36 Z37 Z35 Z3s Z3t Z3r Z3p Z3q idxT_Bs
def c_td_in (f_caesuraref11_Turn : FuncId) : AC :=
  (.loop (.seq (.seq (.reg none [
     ⟨(some 13), .mv (.t 4), none, none⟩,
     ⟨(some 14), .fieldA 3 (.t 1), none, none⟩,
     ⟨(some 15), .load none (.t 14), none, none⟩,
     ⟨(some 16), .len (.t 15), none, none⟩,
     ⟨(some 17), .bin .lss (.t 13) (.t 16), none, none⟩])
    (.cond (.t 17) .skip (.exit 0)))
    (.seq (.block 1 (.seq (.reg none [
      ⟨(some 20), .mv (.t 4), none, none⟩,
      ⟨(some 5), .mv (.t 20), none, none⟩])
     (.seq (.seq (.reg none [
      ⟨(some 21), .fieldA 0 (.t 1), none, none⟩,
      ⟨(some 22), .load none (.t 21), none, none⟩,
      ⟨(some 23), .bin .eql (.t 22) (.c (.v (.int .i64 3))), none, none⟩])
     (.cond (.t 23) (.reg none [
       ⟨(some 24), .fieldA 3 (.t 1), none, none⟩,
       ⟨(some 25), .load none (.t 24), none, none⟩,
       ⟨(some 26), .len (.t 25), none, none⟩,
       ⟨(some 27), .bin .sub (.t 26) (.c (.v (.int .i64 1))), none, none⟩,
       ⟨(some 28), .mv (.t 4), none, none⟩,
       ⟨(some 29), .bin .sub (.t 27) (.t 28), none, none⟩,
       ⟨(some 5), .mv (.t 29), none, none⟩]) .skip))
     (.reg (some []) [
      ⟨(some 30), .fieldA 3 (.t 3), none, none⟩,
      ⟨(some 31), .load none (.t 30), none, none⟩,
      ⟨(some 32), .fieldA 3 (.t 1), none, none⟩,
      ⟨(some 33), .load none (.t 32), none, none⟩,
      ⟨(some 34), .mv (.t 5), none, none⟩,
      ⟨(some 35), .idxA 4 (.t 33) (.t 34), none, none⟩,
      ⟨(some 36), .load (some 4) (.t 35), none, none⟩,
      ⟨(some 37), .mv (.c .junk), none, (some ((.c (.clo f_caesuraref11_Turn [] [])), [(.t 36)]))⟩,
      ⟨(some 38), .bslice 4 1 (.agg [(.v (.int .i64 0)), (.sl true []), (.sl true []), (.sl true [])]) [(0, (.t 37))], none, none⟩,
      ⟨(some 39), .app 4 80 (.t 31) (.t 38), none, none⟩,
      ⟨(some 40), .fieldA 3 (.t 3), none, none⟩,
      ⟨none, .store 1 (.t 40) (.t 39), none, none⟩]))))
    (.reg none [
     ⟨(some 18), .mv (.t 4), none, none⟩,
     ⟨(some 19), .bin .add (.t 18) (.c (.v (.int .i64 1))), none, none⟩,
     ⟨(some 4), .mv (.t 19), none, none⟩]))))
def c_caesuraref11_Turn (f_caesuraref11_Turn : FuncId) : AC :=
  (.seq (.reg none [
   ⟨(some 1), .box 4 (.t 0), none, none⟩,
   ⟨(some 2), .alloc (.agg [(.v (.int .i64 0)), (.sl true []), (.sl true []), (.sl true [])]) 4, none, none⟩])
  (.seq (.reg none [
   ⟨(some 6), .fieldA 0 (.t 1), none, none⟩,
   ⟨(some 7), .load none (.t 6), none, none⟩,
   ⟨(some 8), .fieldA 1 (.t 1), none, none⟩,
   ⟨(some 9), .load none (.t 8), none, none⟩,
   ⟨(some 10), .fieldA 2 (.t 1), none, none⟩,
   ⟨(some 11), .load none (.t 10), none, none⟩,
   ⟨(some 12), .build (.agg [(.v (.int .i64 0)), (.sl true []), (.sl true []), (.sl true [])]) [(0, 1), (1, 1), (2, 1)] [(0, (.t 7)), (1, (.t 9)), (2, (.t 11))], none, none⟩,
   ⟨(some 3), .alloc (.agg [(.v (.int .i64 0)), (.sl true []), (.sl true []), (.sl true [])]) 4, none, none⟩,
   ⟨none, .store 4 (.t 3) (.t 12), none, none⟩])
  (.seq (.seq (.reg none [
   ⟨(some 4), .mv (.c (.v (.int .i64 0))), none, none⟩])
  (.block 0 (c_td_in f_caesuraref11_Turn)))
  (.seq (.reg none [
   ⟨(some 41), .load (some 4) (.t 3), none, none⟩,
   ⟨none, .store 4 (.t 2) (.t 41), none, none⟩])
  .ret))))
def c_lf_a (f_caesuralaw14_accepts f_back_Heads f_caesuraref01_Ints : FuncId) : AC :=
  (.reg (some []) [
   ⟨(some 47), .mv (.t 10), none, none⟩,
   ⟨(some 48), .bin .eql (.t 47) (.c (.v (.int .i64 0))), none, none⟩,
   ⟨(some 49), .mv (.t 48), none, none⟩,
   ⟨(some 50), .load (some 4) (.t 9), (some (49, true)), none⟩,
   ⟨(some 51), .mv (.t 1), (some (49, true)), none⟩,
   ⟨(some 52), .mv (.c .junk), (some (49, true)), (some ((.c (.clo f_caesuralaw14_accepts [] [])), [(.t 50), (.t 51)]))⟩,
   ⟨(some 53), .load (some 4) (.t 7), (some (49, true)), none⟩,
   ⟨(some 54), .mv (.t 1), (some (49, true)), none⟩,
   ⟨(some 55), .mv (.c .junk), (some (49, true)), (some ((.c (.clo f_caesuralaw14_accepts [] [])), [(.t 53), (.t 54)]))⟩,
   ⟨(some 56), .beq false (.t 52) (.t 55), (some (49, true)), none⟩,
   ⟨(some 57), .pick (.t 49) (.t 56) (.c (.v (.bool false))), none, none⟩,
   ⟨(some 58), .mv (.t 57), none, none⟩,
   ⟨(some 59), .load (some 4) (.t 9), (some (58, true)), none⟩,
   ⟨(some 60), .mv (.t 1), (some (58, true)), none⟩,
   ⟨(some 61), .mv (.c .junk), (some (58, true)), (some ((.c (.clo f_back_Heads [] [])), [(.t 59), (.t 60)]))⟩,
   ⟨(some 62), .load (some 4) (.t 7), (some (58, true)), none⟩,
   ⟨(some 63), .mv (.t 1), (some (58, true)), none⟩,
   ⟨(some 64), .mv (.c .junk), (some (58, true)), (some ((.c (.clo f_back_Heads [] [])), [(.t 62), (.t 63)]))⟩,
   ⟨(some 65), .mv (.c .junk), (some (58, true)), (some ((.c (.clo f_caesuraref01_Ints [] [])), [(.t 61), (.t 64)]))⟩,
   ⟨(some 66), .pick (.t 58) (.t 65) (.c (.v (.bool false))), none, none⟩,
   ⟨(some 4), .mv (.t 66), none, none⟩])
def c_caesuralaw14_BackForms (f_caesuralaw14_alive f_caesuraref08_Weight f_caesuraref13_Of f_caesuraref11_Turn f_caesuraref13_Great f_back_Turn f_caesuralaw14_accepts f_back_Heads f_caesuraref01_Ints : FuncId) : AC :=
  (.seq (.reg none [
   ⟨(some 2), .box 4 (.t 0), none, none⟩,
   ⟨(some 4), .mv (.c (.v (.bool false))), none, none⟩])
  (.seq (.seq (.reg none [
   ⟨(some 11), .mv (.c .junk), none, (some ((.c (.clo f_caesuralaw14_alive [] [])), []))⟩,
   ⟨(some 12), .un .not (.t 11), none, none⟩])
  (.cond (.t 12) (.seq (.reg none [
    ⟨(some 4), .mv (.c (.v (.bool false))), none, none⟩])
   .ret) .skip))
  (.seq (.seq (.reg none [
   ⟨(some 13), .load (some 4) (.t 2), none, none⟩,
   ⟨(some 14), .mv (.c .junk), none, (some ((.c (.clo f_caesuraref08_Weight [] [])), [(.t 13), (.c (.v (.int .i64 0)))]))⟩,
   ⟨(some 15), .bin .gtr (.t 14) (.c (.v (.int .i64 300))), none, none⟩])
  (.cond (.t 15) (.seq (.reg none [
    ⟨(some 4), .mv (.c (.v (.bool true))), none, none⟩])
   .ret) .skip))
  (.seq (.reg none [
   ⟨(some 17), .load (some 4) (.t 2), none, none⟩,
   ⟨(some 18), .mv (.c .junk), none, (some ((.c (.clo f_caesuraref13_Of [] [])), [(.t 17), (.c (.v (.int .i64 3)))]))⟩,
   ⟨(some 16), .mv (.t 18), none, none⟩,
   ⟨(some 19), .ext 0 (.t 16), none, none⟩,
   ⟨(some 20), .ext 1 (.t 16), none, none⟩,
   ⟨(some 5), .alloc (.agg [(.v (.int .i64 0)), (.sl true []), (.sl true []), (.sl true [])]) 4, none, none⟩,
   ⟨none, .store 4 (.t 5) (.t 19), none, none⟩,
   ⟨(some 6), .mv (.t 20), none, none⟩])
  (.seq (.reg none [
   ⟨(some 22), .load (some 4) (.t 2), none, none⟩,
   ⟨(some 23), .mv (.c .junk), none, (some ((.c (.clo f_caesuraref11_Turn [] [])), [(.t 22)]))⟩,
   ⟨(some 24), .mv (.c .junk), none, (some ((.c (.clo f_caesuraref13_Of [] [])), [(.t 23), (.c (.v (.int .i64 3)))]))⟩,
   ⟨(some 21), .mv (.t 24), none, none⟩,
   ⟨(some 25), .ext 0 (.t 21), none, none⟩,
   ⟨(some 26), .ext 1 (.t 21), none, none⟩,
   ⟨(some 7), .alloc (.agg [(.v (.int .i64 0)), (.sl true []), (.sl true []), (.sl true [])]) 4, none, none⟩,
   ⟨none, .store 4 (.t 7) (.t 25), none, none⟩,
   ⟨(some 8), .mv (.t 26), none, none⟩])
  (.seq (.seq (.reg none [
   ⟨(some 27), .mv (.t 6), none, none⟩,
   ⟨(some 28), .bin .neq (.t 27) (.c (.v (.int .i64 0))), none, none⟩,
   ⟨(some 29), .mv (.t 28), none, none⟩,
   ⟨(some 30), .mv (.t 8), (some (29, false)), none⟩,
   ⟨(some 31), .bin .neq (.t 30) (.c (.v (.int .i64 0))), (some (29, false)), none⟩,
   ⟨(some 32), .pick (.t 29) (.c (.v (.bool true))) (.t 31), none, none⟩,
   ⟨(some 33), .mv (.t 32), none, none⟩,
   ⟨(some 34), .load (some 4) (.t 5), (some (33, false)), none⟩,
   ⟨(some 35), .mv (.c .junk), (some (33, false)), (some ((.c (.clo f_caesuraref13_Great [] [])), [(.t 34), (.c (.v (.int .i64 400)))]))⟩,
   ⟨(some 36), .pick (.t 33) (.c (.v (.bool true))) (.t 35), none, none⟩,
   ⟨(some 37), .mv (.t 36), none, none⟩,
   ⟨(some 38), .mv (.t 1), (some (37, false)), none⟩,
   ⟨(some 39), .len (.t 38), (some (37, false)), none⟩,
   ⟨(some 40), .bin .gtr (.t 39) (.c (.v (.int .i64 10))), (some (37, false)), none⟩,
   ⟨(some 41), .pick (.t 37) (.c (.v (.bool true))) (.t 40), none, none⟩])
  (.cond (.t 41) (.seq (.reg none [
    ⟨(some 4), .mv (.c (.v (.bool true))), none, none⟩])
   .ret) .skip))
  (.seq (.reg none [
   ⟨(some 43), .load (some 4) (.t 5), none, none⟩,
   ⟨(some 44), .mv (.c .junk), none, (some ((.c (.clo f_back_Turn [] [])), [(.t 43)]))⟩,
   ⟨(some 42), .mv (.t 44), none, none⟩,
   ⟨(some 45), .ext 0 (.t 42), none, none⟩,
   ⟨(some 46), .ext 1 (.t 42), none, none⟩,
   ⟨(some 9), .alloc (.agg [(.v (.int .i64 0)), (.sl true []), (.sl true []), (.sl true [])]) 4, none, none⟩,
   ⟨none, .store 4 (.t 9) (.t 45), none, none⟩,
   ⟨(some 10), .mv (.t 46), none, none⟩])
  (.seq (c_lf_a f_caesuralaw14_accepts f_back_Heads f_caesuraref01_Ints)
  .ret))))))))
theorem Cls_Pat (l : List Pat) : Cls (l.map encPat) := Cls_map closed_Pat l
theorem Cel_Pat (l : List Pat) : Cel 4 (l.map encPat) := Cel_map (enc := encPat) encPat_cells l
def tkL (k : Int) (ks : List Pat) : List Pat := if k = 3 then (turnPs ks).reverse else turnPs ks
theorem tkL_len (k : Int) (ks : List Pat) : (tkL k ks).length = ks.length := by unfold tkL; rw [turnPs_eq]; split <;> simp
theorem tkL_at {k : Int} {ks : List Pat} {i : Nat} (h : i < ks.length) : ∃ j, j < ks.length ∧ (j : Int) = (if k = 3 then (ks.length : Int) - 1 - i else i) ∧ ∃ q, ks[j]? = some q ∧ (tkL k ks).take (i + 1) = (tkL k ks).take i ++ [turnP q] := by
  have hl : i < (tkL k ks).length := by rw [tkL_len]; exact h
  by_cases h3 : k = 3
  · refine ⟨ks.length - 1 - i, by omega, by rw [if_pos h3]; omega, ks[ks.length - 1 - i], List.getElem?_eq_getElem (by omega), ?_⟩
    rw [List.take_add_one, List.getElem?_eq_getElem hl]
    have : (tkL k ks)[i] = turnP ks[ks.length - 1 - i] := by
      simp only [tkL, h3, if_true, turnPs_eq]
      rw [List.getElem_reverse]
      simp
    rw [this]; rfl
  · refine ⟨i, h, by rw [if_neg h3], ks[i], List.getElem?_eq_getElem h, ?_⟩
    rw [List.take_add_one, List.getElem?_eq_getElem hl]
    have : (tkL k ks)[i] = turnP ks[i] := by
      simp only [tkL, h3, if_false, turnPs_eq]
      simp
    rw [this]; rfl
theorem cells_Rs (l : List Rg) : (encRs l).cells = [encRs l] := rfl
theorem solid_Rs (l : List Rg) : (encRs l).solid = true := rfl
def tdI (_ : Nat) (_ : Bool) : Prop := True
def tdA (i : Nat) (_ : Bool) : List (Nat × AV) := [(1, .ptr 0 0 0), (2, .ptr 1 0 0), (3, .ptr 2 0 0), (4, encI i)]
def tdG (k : Int) (s : List Rg) (g : List Int) (ks : List Pat) (i : Nat) (o : Bool) : List (Nat × Option Blk) :=
  [(0, some (.arr 4 [encPat (.mk k s g ks)])), (1, some (.arr 4 [.agg [encI 0, .sl true [], .sl true [], .sl true []]])), (2, some (.arr 4 [.agg [encI k, encRs s, encIs g, vV o 3 (((tkL k ks).map encPat).take i)]])), (3, vB o 4 (((tkL k ks).map encPat).take i))]
theorem fz_vV4 {g : Nat → Option Blk} {o : Bool} {id : Nat} {xs : List AV} (hg : g id = vB o 4 xs) (hc : Cls xs) : Fz g (vV o id xs) (.sl false xs) := by
  cases o with
  | true =>
    rw [vV_t]; rw [vB_t] at hg
    refine .own id 0 xs.length 4 xs xs hg (by omega) rfl (fun i h1 h2 => ?_)
    simp only [List.drop_zero, List.take_length]
    exact .closed _ (hc _ (List.getElem_mem _))
  | false => rw [vV_f]; exact .loose true xs (.sl _ _ hc)
theorem turn11_body {P : Program} {ft : FuncId} (k : Int) (s : List Rg) (g : List Int) (ks : List Pat) (hl : ks.length ≤ 100000) (hq : ∀ q ∈ ks, PureC P ft [encPat q] (encPat (turnP q))) :
    AWb P 0 (c_caesuraref11_Turn ft) (RetC [.c 2 (some 4)] (FzK (encPat (turnP (.mk k s g ks))))) (argF [encPat (.mk k s g ks)]) S0 := by
  have hcp := closed_Pat' k s g ks
  simp [c_caesuraref11_Turn, encPat_eq, exAlloc, exBuild, afill, c_td_in, cells_Rs, solid_Rs]
  refine AWb_for ks.length tdI tdA 10 (tdG k s g ks) false trivial ?_ ?_
  · refine Abs.of [(0, 0), (1, 1), (2, 9)] [] (by omega) ⟨by simp, by simp⟩ ?_ ?_
    · simp [RenL_snoc, RenL.cl, RenV.cl, Z2r, Z2o, Z2s, Z2t, Z2p, Z2v, Z2u, Z2q, Z2w, Z2x, Z1d, Z1c, Z1b, Z19, Z18, Z1a, Z1e, Z52, Z4v, Z4z, Z3y, Z51, Z50, Z3z, Z1p, Z1q, Z1x, Z1v, Z1w, Z1u, Z1t, Z1s, Z1r, Z44, Z43, Z42, Z4e, Z4f, Z22, Z23, Z3d, Z3e, Z27, Z26, vV_t, vV_f, vB_t, vB_f, encI, encB, tdG, encPat_eq, closed_Rs, closed_Patx]
    · simp [RenL_snoc, RenL.cl, RenV.cl, Z2r, Z2o, Z2s, Z2t, Z2p, Z2v, Z2u, Z2q, Z2w, Z2x, Z1d, Z1c, Z1b, Z19, Z18, Z1a, Z1e, Z52, Z4v, Z4z, Z3y, Z51, Z50, Z3z, Z1p, Z1q, Z1x, Z1v, Z1w, Z1u, Z1t, Z1s, Z1r, Z44, Z43, Z42, Z4e, Z4f, Z22, Z23, Z3d, Z3e, Z27, Z26, vV_t, vV_f, vB_t, vB_f, encI, encB, tdA]
  · rintro i o hi _
    by_cases hlt : i < ks.length
    · obtain ⟨j, hj, hje, q, hsk, htk⟩ := tkL_at (k := k) hlt
      obtain ⟨hj', hjq⟩ := List.getElem?_eq_some_iff.mp hsk
      have hqm : q ∈ ks := hjq ▸ List.getElem_mem hj'
      have hqk := hq q hqm
      have htl := tkL_len k ks
      have hcq := closed_Pat q
      have hct := closed_Pat (turnP q)
      have hok : appOk 80 i 1 := by unfold appOk; omega
      have hmin : min i (tkL k ks).length = i := by omega
      have hcT : Cel 4 (((tkL k ks).map encPat).take i) := fun z hz => Cel_Pat _ z (List.mem_of_mem_take hz)
      have htm : ((tkL k ks).map encPat).take (i + 1) = ((tkL k ks).map encPat).take i ++ [encPat (turnP q)] := by rw [← List.map_take, htk, List.map_append, List.map_take]; rfl
      have hcl : Cls (((tkL k ks).map encPat).take i) := fun z hz => Cls_Pat _ z (List.mem_of_mem_take hz)
      have hce : (encPat (turnP q)).cells.length = 4 := encPat_cells _
      have hso : (encPat (turnP q)).solid = true := by obtain ⟨a, b, c, d⟩ := turnP q; rw [encPat_eq]; rfl
      obtain ⟨x1, x2, x3, x4, hx⟩ : ∃ x1 x2 x3 x4 : AV, encPat q = .agg [x1, x2, x3, x4] := by
        obtain ⟨k, s, g, ks⟩ := q; rw [encPat_eq]; exact ⟨_, _, _, _, rfl⟩
      rw [hx] at hqk hcq
      have D1 := fun n' g' => CallD.cd (S := ⟨n', g'⟩) hqk (cl_cons hcq cl_nil) hct
      have hjI : (j : Int) < (ks.length : Int) := by omega
      have hj0 : (0 : Int) ≤ (j : Int) := by omega
      by_cases h3 : k = 3
      · have h3' : (k == 3) = true := by simp [h3]
        rw [if_pos h3] at hje
        have hw1 : IntKind.i64.wrap ((ks.length : Int) - 1) = (ks.length : Int) - 1 := wrap_in _ (by omega)
        have hw2 : IntKind.i64.wrap ((ks.length : Int) - 1 - i) = (j : Int) := by rw [wrap_in _ (by omega)]; omega
        simp [tdA, tdG, hlt, encPat_eq, h3', hw1, hw2, hjI, hj0, hsk, hx]
        refine ⟨_, ⟨_, D1 _ _⟩, ?_⟩
        simp [hce, hso, hok, hmin, hcT, cells_Rs, solid_Rs]
        rw [wrap_in _ (by omega)]
        refine ⟨hlt, true, trivial, Abs.of [(0, 0), (1, 1), (2, 2), (3, 36)] [] (by omega) ⟨by simp, by simp⟩ ?_ ?_⟩
        · simp [RenL_snoc, RenL.cl, RenV.cl, Z2r, Z2o, Z2s, Z2t, Z2p, Z2v, Z2u, Z2q, Z2w, Z2x, Z1d, Z1c, Z1b, Z19, Z18, Z1a, Z1e, Z52, Z4v, Z4z, Z3y, Z51, Z50, Z3z, Z1p, Z1q, Z1x, Z1v, Z1w, Z1u, Z1t, Z1s, Z1r, Z44, Z43, Z42, Z4e, Z4f, Z22, Z23, Z3d, Z3e, Z27, Z26, vV_t, vV_f, vB_t, vB_f, encI, encB, tdG, encPat_eq, closed_Rs, closed_Patx, htm, hmin, hcl, hct]
        · simp [RenL_snoc, RenL.cl, RenV.cl, Z2r, Z2o, Z2s, Z2t, Z2p, Z2v, Z2u, Z2q, Z2w, Z2x, Z1d, Z1c, Z1b, Z19, Z18, Z1a, Z1e, Z52, Z4v, Z4z, Z3y, Z51, Z50, Z3z, Z1p, Z1q, Z1x, Z1v, Z1w, Z1u, Z1t, Z1s, Z1r, Z44, Z43, Z42, Z4e, Z4f, Z22, Z23, Z3d, Z3e, Z27, Z26, vV_t, vV_f, vB_t, vB_f, encI, encB, tdA]
      · have h3' : (k == 3) = false := by simpa using h3
        rw [if_neg h3] at hje
        have hji : j = i := by omega
        subst hji
        simp [tdA, tdG, hlt, encPat_eq, h3', hjI, hj0, hsk, hx, hjq]
        refine ⟨_, ⟨_, D1 _ _⟩, ?_⟩
        simp [hce, hso, hok, hmin, hcT, cells_Rs, solid_Rs]
        rw [wrap_in _ (by omega)]
        refine ⟨hlt, true, trivial, Abs.of [(0, 0), (1, 1), (2, 2), (3, 29)] [] (by omega) ⟨by simp, by simp⟩ ?_ ?_⟩
        · simp [RenL_snoc, RenL.cl, RenV.cl, Z2r, Z2o, Z2s, Z2t, Z2p, Z2v, Z2u, Z2q, Z2w, Z2x, Z1d, Z1c, Z1b, Z19, Z18, Z1a, Z1e, Z52, Z4v, Z4z, Z3y, Z51, Z50, Z3z, Z1p, Z1q, Z1x, Z1v, Z1w, Z1u, Z1t, Z1s, Z1r, Z44, Z43, Z42, Z4e, Z4f, Z22, Z23, Z3d, Z3e, Z27, Z26, vV_t, vV_f, vB_t, vB_f, encI, encB, tdG, encPat_eq, closed_Rs, closed_Patx, htm, hmin, hcl, hct]
        · simp [RenL_snoc, RenL.cl, RenV.cl, Z2r, Z2o, Z2s, Z2t, Z2p, Z2v, Z2u, Z2q, Z2w, Z2x, Z1d, Z1c, Z1b, Z19, Z18, Z1a, Z1e, Z52, Z4v, Z4z, Z3y, Z51, Z50, Z3z, Z1p, Z1q, Z1x, Z1v, Z1w, Z1u, Z1t, Z1s, Z1r, Z44, Z43, Z42, Z4e, Z4f, Z22, Z23, Z3d, Z3e, Z27, Z26, vV_t, vV_f, vB_t, vB_f, encI, encB, tdA]
    · have hke : i = ks.length := by omega
      subst hke
      have htt : ((tkL k ks).map encPat).take ks.length = (tkL k ks).map encPat := List.take_of_length_le (by rw [List.length_map, tkL_len]; exact Nat.le_refl _)
      simp [tdA, tdG, encPat_eq, htt, RetC, evC, RV.ev, ldC, packC, cells_Rs, solid_Rs]
      have e : turnP (.mk k s g ks) = .mk k s g (tkL k ks) := by simp only [turnP, tkL]
      rw [e, encPat_eq]
      exact .aggL (.cons (.closed _ (.v _)) (.cons (.closed _ (closed_Rs _)) (.cons (.closed _ (Z2s _)) (.cons (fz_vV4 (by simp [RenL_snoc, RenL.cl, RenV.cl, Z2r, Z2o, Z2s, Z2t, Z2p, Z2v, Z2u, Z2q, Z2w, Z2x, Z1d, Z1c, Z1b, Z19, Z18, Z1a, Z1e, Z52, Z4v, Z4z, Z3y, Z51, Z50, Z3z, Z1p, Z1q, Z1x, Z1v, Z1w, Z1u, Z1t, Z1s, Z1r, Z44, Z43, Z42, Z4e, Z4f, Z22, Z23, Z3d, Z3e, Z27, Z26, vV_t, vV_f, vB_t, vB_f, encI, encB]) (Cls_Pat _)) .nil))))
mutual
theorem turn11_ok {P : Program} (hm : P.follows .mixedOrders = true) {f : FuncId} (h : IsC P f (c_caesuraref11_Turn f) [.c 2 (some 4)] 1) : ∀ (p : Pat), PatS p → PureC P f [encPat p] (encPat (turnP p))
  | .mk k ps pg ks, hp => by
    simp only [PatS] at hp
    exact h.pureB hm rfl (turn11_body k ps pg ks hp.2.1 (turns11_ok hm h ks hp.2.2))
theorem turns11_ok {P : Program} (hm : P.follows .mixedOrders = true) {f : FuncId} (h : IsC P f (c_caesuraref11_Turn f) [.c 2 (some 4)] 1) : ∀ (ks : List Pat), PatsS ks → ∀ q ∈ ks, PureC P f [encPat q] (encPat (turnP q))
  | [], _, q, hq => by simp at hq
  | p :: ps, hp, q, hq => by
    simp only [PatsS] at hp
    rcases List.mem_cons.mp hq with e | hq
    · rw [e]; exact turn11_ok hm h p hp.1
    · exact turns11_ok hm h ps hp.2 q hq
end
mutual
theorem nd_turn : ∀ p : Pat, ndP (turnP p) = ndP p
  | .mk k s g ks => by
    have := nds_turn ks
    simp only [turnP, ndP]
    split
    · rw [ndL_sum, List.map_reverse, List.sum_reverse, ← ndL_sum, this]
    · rw [this]
theorem nds_turn : ∀ ks : List Pat, ndL (turnPs ks) = ndL ks
  | [] => rfl
  | p :: ps => by simp only [turnPs, ndL]; rw [nd_turn p, nds_turn ps]
end
theorem forms_acc {p : Pat} (hc : cntP p ≤ 300) (l : List Int) : accN (turnN (netOf p 3)) l = accN (netOf (turnP p) 3) l := by
  have R := (netOf_ok (p := p) (sg := 3) (by omega) (by omega) hc).R
  have h1 := acc_turn ((rightN_iff _).mpr R) l.reverse
  have h2 := net_turn (p := p) (sg := 3) (by omega) (by omega) hc l.reverse
  rw [List.reverse_reverse] at h1 h2
  rw [h1, h2]
theorem forms_heads {p : Pat} (hc : cntP p ≤ 300) (l : List Int) : headsN (turnN (netOf p 3)) l = headsN (netOf (turnP p) 3) l := by
  rw [headsN_eq, headsN_eq]
  have : hdP (turnN (netOf p 3)) l = hdP (netOf (turnP p) 3) l := by funext i; exact forms_acc hc _
  rw [this]
/-- What is wanted of the functions at the form's nets. -/
structure BfOk (P : Program) (p : Pat) (fb fa fh fi : FuncId) (l : List Int) : Prop where
  turn : PureC P fb [encNet (netOf p 3)] (.tup [encNet (turnN (netOf p 3)), encI 0])
  acc1 : PureC P fa [encNet (turnN (netOf p 3)), encIs l] (encB (accN (turnN (netOf p 3)) l))
  acc2 : PureC P fa [encNet (netOf (turnP p) 3), encIs l] (encB (accN (netOf (turnP p) 3) l))
  hd1 : PureC P fh [encNet (turnN (netOf p 3)), encIs l] (encIs (headsN (turnN (netOf p 3)) l))
  hd2 : PureC P fh [encNet (netOf (turnP p) 3), encIs l] (encIs (headsN (netOf (turnP p) 3) l))
  ints : ∀ a : List Int, a.length ≤ 1000 → PureC P fi [encIs a, encIs a] (encB true)
theorem BackForms_body {P : Program} {fal fw fo ft fg fb fa fh fi : FuncId} (p : Pat) (hp : goodP p) (l : List Int) (hl : Len l) (hal : PureC P fal [] (encB true)) (hw : PureC P fw [encPat p, encI 0] (encI (wgtP p 0)))
    (hof : ∀ x, PatS x → PureC P fo [encPat x, encI 3] (encNE (netRes x 3))) (htn : ∀ x, PatS x → PureC P ft [encPat x] (encPat (turnP x))) (gr : Bool) (hgr : cntP p ≤ 300 → PureC P fg [encNet (netOf p 3), encI 400] (encB gr))
    (H : cntP p ≤ 300 → gr = false → l.length ≤ 10 → BfOk P p fb fa fh fi l) :
    AWb P 0 (c_caesuralaw14_BackForms fal fw fo ft fg fb fa fh fi) (RetK [4] (FzK (encB true))) (argF [encPat p, encIs l]) S0 := by
  unfold Len at hl
  have hcp := closed_Pat p
  have hct := closed_Pat (turnP p)
  obtain ⟨x1, x2, x3, x4, ep⟩ : ∃ x1 x2 x3 x4 : AV, encPat p = .agg [x1, x2, x3, x4] := by
    obtain ⟨k, s, g, ks⟩ := p; rw [encPat_eq]; exact ⟨_, _, _, _, rfl⟩
  have hw1 := hw
  rw [ep] at hw1 hcp
  simp [c_caesuralaw14_BackForms, ep]
  refine CallR.pure hal cl_nil (Z2o _) ?_
  simp
  refine CallR.pure hw1 (cl_cons hcp (cl_cons (Z2r _) cl_nil)) (Z2r _) ?_
  by_cases h1 : 300 < wgtP p 0
  · simp [h1]
    exact FzK_B true _
  have n1 := nd_wgt _ 0 hp (by omega) (by omega)
  have s1 := (wgtP_small _ 0 hp (by omega) (by omega)).1
  have s2 := PatS_turn p s1
  have c1 := cnt_nd p
  have z (x : Pat) (h : (ndP x : Int) ≤ 300) : netRes x 3 = (netOf x 3, 0) := by
    rw [netRes, if_neg (by omega), if_neg]
    unfold szP; omega
  have o1 := hof _ s1
  have o2 := hof _ s2
  rw [z _ (by omega), ep] at o1
  rw [z _ (by rw [nd_turn]; omega)] at o2
  have t1 := htn p s1
  rw [ep] at t1
  have hg := hgr (by omega)
  have HH := H (by omega)
  have e1 := forms_acc (p := p) (by omega) l
  have e2 := forms_heads (p := p) (by omega) l
  have hhl : (headsN (netOf (turnP p) 3) l).length ≤ l.length + 1 := by rw [headsN_eq]; exact filtL_len _ _
  have HB : gr = false → l.length ≤ 10 → _ := fun a b => (HH a b).turn
  have HA1 : gr = false → l.length ≤ 10 → _ := fun a b => (HH a b).acc1
  have HA2 : gr = false → l.length ≤ 10 → _ := fun a b => (HH a b).acc2
  have HD1 : gr = false → l.length ≤ 10 → _ := fun a b => (HH a b).hd1
  have HD2 : gr = false → l.length ≤ 10 → _ := fun a b => (HH a b).hd2
  have HI : gr = false → l.length ≤ 10 → PureC P fi [encIs (headsN (netOf (turnP p) 3) l), encIs (headsN (netOf (turnP p) 3) l)] (encB true) := fun a b => (HH a b).ints _ (by omega)
  rw [e1] at HA1
  rw [e2] at HD1
  clear HH H hgr
  generalize netOf p 3 = n at *
  generalize netOf (turnP p) 3 = m at *
  generalize turnN n = t at *
  generalize headsN m l = hd at *
  generalize accN m l = ac at *
  simp only [encNE, encI] at o1 o2
  have hcn : ∀ n : Net, Closed (.tup [encNet n, .v (.int .i64 0)]) := fun n => .tup _ (cl_cons (closed_Net n) (cl_cons (.v _) cl_nil))
  simp [h1]
  refine CallR.pure o1 (cl_cons hcp (cl_cons (Z2r _) cl_nil)) (hcn _) ?_
  simp [exAlloc]
  refine CallR.pure t1 (cl_cons hcp cl_nil) hct ?_
  simp
  refine CallR.pure o2 (cl_cons hct (cl_cons (Z2r _) cl_nil)) (hcn _) ?_
  simp [exAlloc]
  refine CallR.pure hg (cl_cons (closed_Net _) (cl_cons (Z2r _) cl_nil)) (Z2o _) ?_
  cases hgr : gr with
  | true =>
    simp
    exact FzK_B true _
  | false =>
    by_cases h3 : 10 < (l.length : Int)
    · simp [h3]
      exact FzK_B true _
    have hb := HB hgr (by omega)
    have D1 := fun n' g' => CallD.cd (S := ⟨n', g'⟩) (HA1 hgr (by omega)) (cl_cons (closed_Net t) (cl_cons (Z2s _) cl_nil)) (Z2o _)
    have D2 := fun n' g' => CallD.cd (S := ⟨n', g'⟩) (HA2 hgr (by omega)) (cl_cons (closed_Net m) (cl_cons (Z2s _) cl_nil)) (Z2o _)
    have D3 := fun n' g' => CallD.cd (S := ⟨n', g'⟩) (HD1 hgr (by omega)) (cl_cons (closed_Net t) (cl_cons (Z2s _) cl_nil)) (Z2s _)
    have D4 := fun n' g' => CallD.cd (S := ⟨n', g'⟩) (HD2 hgr (by omega)) (cl_cons (closed_Net m) (cl_cons (Z2s _) cl_nil)) (Z2s _)
    have D5 := fun n' g' => CallD.cd (S := ⟨n', g'⟩) (HI hgr (by omega)) (cl_cons (Z2s _) (cl_cons (Z2s _) cl_nil)) (Z2o _)
    simp [h3]
    refine CallR.pure hb (cl_cons (closed_Net _) cl_nil) (hcn _) ?_
    simp [exAlloc, c_lf_a]
    refine ⟨_, ⟨_, D1 _ _⟩, _, ⟨_, D2 _ _⟩, ?_⟩
    simp
    refine ⟨_, ⟨_, D3 _ _⟩, _, ⟨_, D4 _ _⟩, ?_⟩
    refine ⟨_, ⟨_, D5 _ _⟩, ?_⟩
    simp
    exact FzK_B true _
end Go.Rf

