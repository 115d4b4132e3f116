import Derived.Test.YtidkjfaeolfcaaaGreatRfB23
import Derived.Test.YtidkjfaeolfcaaaGreatRfL10
import Derived.Test.YtidkjfaeolfcaaaGreatRfB3
import Derived.Test.YtidkjfaeolfcaaaGreatRfB5
import Derived.Test.YtidkjfaeolfcaaaGreatRfB7
import Derived.Test.YtidkjfaeolfcaaaGreatRfTx2
import Derived.Test.YtidkjfaeolfcaaaGreatRfG1
/- Own work: what an automaton shows at a text: characters' atoms, the marked list (walks). -/
set_option linter.unusedVariables false
set_option linter.unusedSimpArgs false
namespace Go.Rf
open Go.RowKit
attribute [local simp] AWb_seq Z0m Z0n Z0j Z0k Z0r Z0l Z0p Z0q Z0o Z21 Z20 Z22 Z23 Z3d Z3e Z3a vIdx Z4x Z4w Z4y vApp Z4u Z3u Z11 Z10 Z0z Z0x Z0w Z0y Z17 Z16 Z15 Z13 Z12 Z14 Z2c Z2d Z2a Z2n Z31 Z30 Z07 Z08 Z06 Z01 Z02 Z00 Z04 Z05 Z03 Z1z Z1y Z46 Z48 Z47 Z45 Z1n Z1o Z1m Z3n Z3k Z3m Z3l Z3o Z1l Z29 Z32 Z3x Z1i Z1j Z1k Z3v Z3w Z1g Z28 Z1h Z3i Z3f Z3h Z3g Z3j Z41 Z40 Z0t Z0u Z0v Z0s Z1f Z4c Z4b Z4d Z4a Z49 ex Z43 Z42 ev_t ev_c Z27 Z26 Z4e Z4f Z2m Z2l Z2f Z2j Z2k Z2g Z2h Z2i putc exBslice lfill exField exIdxV exIdxP exBox exAlloc Z3b Z3c exStore exFieldA Z34 Z33 Z39 Z38 exPick exUn exBeq exMM exSeq seqGo exExt binV intOp subc Z4s Z4r Z4p Z4q Z4n Z4l Z4m Z4o Z4i Z4j Z4g Z4t S0 encI encB Z4k Z2e Z25 Z4h Z2b Z24 Z36 Z37 Z35 Z3s Z3t Z3r Z3p Z3q idxT_Bs
def c_slices_ContainsFunc_Sapi_Range_api_Range_ (f_slices_IndexFunc_Sapi_Range_api_Range_ : FuncId) : AC :=
  (.seq (.reg none [
   ⟨(some 4), .mv (.c (.v (.bool false))), none, none⟩])
  (.seq (.reg none [
   ⟨(some 5), .mv (.t 0), none, none⟩,
   ⟨(some 6), .mv (.t 1), none, none⟩,
   ⟨(some 7), .mv (.c .junk), none, (some ((.c (.clo f_slices_IndexFunc_Sapi_Range_api_Range_ [] [])), [(.t 5), (.t 6)]))⟩,
   ⟨(some 8), .bin .geq (.t 7) (.c (.v (.int .i64 0))), none, none⟩,
   ⟨(some 4), .mv (.t 8), none, none⟩])
  .ret))
def c_span_Has_1 : AC :=
  (.seq (.reg none [
   ⟨(some 2), .box 2 (.t 0), none, none⟩,
   ⟨(some 3), .mv (.c (.v (.bool false))), none, none⟩])
  (.seq (.reg none [
   ⟨(some 4), .fieldA 0 (.t 2), none, none⟩,
   ⟨(some 5), .load none (.t 4), none, none⟩,
   ⟨(some 6), .load none (.t 1), none, none⟩,
   ⟨(some 7), .bin .leq (.t 5) (.t 6), none, none⟩,
   ⟨(some 8), .mv (.t 7), none, none⟩,
   ⟨(some 9), .load none (.t 1), (some (8, true)), none⟩,
   ⟨(some 10), .fieldA 1 (.t 2), (some (8, true)), none⟩,
   ⟨(some 11), .load none (.t 10), (some (8, true)), none⟩,
   ⟨(some 12), .bin .leq (.t 9) (.t 11), (some (8, true)), none⟩,
   ⟨(some 13), .pick (.t 8) (.t 12) (.c (.v (.bool false))), none, none⟩,
   ⟨(some 3), .mv (.t 13), none, none⟩])
  .ret))
def c_ir_in : AC :=
  (.loop (.seq (.reg none [
     ⟨(some 9), .bin .lss (.t 8) (.t 7), none, none⟩])
    (.seq (.cond (.t 9) .skip (.exit 0))
    (.seq (.block 1 (.seq (.reg none [
      ⟨(some 10), .mv (.t 8), none, none⟩,
      ⟨(some 5), .mv (.t 10), none, none⟩])
     (.seq (.reg none [
      ⟨(some 11), .mv (.t 1), none, none⟩,
      ⟨(some 12), .mv (.t 0), none, none⟩,
      ⟨(some 13), .mv (.t 5), none, none⟩,
      ⟨(some 14), .idxA 2 (.t 12) (.t 13), none, none⟩,
      ⟨(some 15), .load (some 2) (.t 14), none, none⟩,
      ⟨(some 16), .mv (.c .junk), none, (some ((.t 11), [(.t 15)]))⟩])
     (.cond (.t 16) (.seq (.reg none [
       ⟨(some 17), .mv (.t 5), none, none⟩,
       ⟨(some 4), .mv (.t 17), none, none⟩])
      .ret) .skip))))
    (.reg none [
     ⟨(some 18), .bin .add (.t 8) (.c (.v (.int .i64 1))), none, none⟩,
     ⟨(some 8), .mv (.t 18), none, none⟩])))))
def c_slices_IndexFunc_Sapi_Range_api_Range_ : AC :=
  (.seq (.reg none [
   ⟨(some 4), .mv (.c (.v (.int .i64 0))), none, none⟩])
  (.seq (.seq (.reg none [
   ⟨(some 6), .mv (.t 0), none, none⟩,
   ⟨(some 7), .len (.t 6), none, none⟩,
   ⟨(some 8), .mv (.c (.v (.int .i64 0))), none, none⟩])
  (.block 0 c_ir_in))
  (.seq (.reg none [
   ⟨(some 4), .mv (.c (.v (.int .i64 (-1)))), none, none⟩])
  .ret)))
def c_span_Has (f_span_Has_1 f_slices_ContainsFunc_Sapi_Range_api_Range_ : FuncId) : AC :=
  (.seq (.reg none [
   ⟨(some 3), .box 1 (.t 1), none, none⟩,
   ⟨(some 4), .mv (.c (.v (.bool false))), none, none⟩])
  (.seq (.reg none [
   ⟨(some 5), .load none (.t 3), none, none⟩,
   ⟨(some 6), .bin .geq (.t 5) (.c (.v (.int .i64 0))), none, none⟩,
   ⟨(some 7), .mv (.t 6), none, none⟩,
   ⟨(some 8), .load none (.t 3), (some (7, true)), none⟩,
   ⟨(some 9), .bin .leq (.t 8) (.c (.v (.int .i64 1114111))), (some (7, true)), none⟩,
   ⟨(some 10), .pick (.t 7) (.t 9) (.c (.v (.bool false))), none, none⟩,
   ⟨(some 11), .mv (.t 10), none, none⟩,
   ⟨(some 12), .mv (.t 0), (some (11, true)), none⟩,
   ⟨(some 13), .len (.t 12), (some (11, true)), none⟩,
   ⟨(some 14), .bin .leq (.t 13) (.c (.v (.int .i64 400))), (some (11, true)), none⟩,
   ⟨(some 15), .pick (.t 11) (.t 14) (.c (.v (.bool false))), none, none⟩,
   ⟨(some 16), .mv (.t 15), none, none⟩,
   ⟨(some 17), .mv (.t 0), (some (16, true)), none⟩,
   ⟨(some 18), .mkf f_span_Has_1 [] [(.t 3)], (some (16, true)), none⟩,
   ⟨(some 19), .mv (.c .junk), (some (16, true)), (some ((.c (.clo f_slices_ContainsFunc_Sapi_Range_api_Range_ [] [])), [(.t 17), (.t 18)]))⟩,
   ⟨(some 20), .pick (.t 16) (.t 19) (.c (.v (.bool false))), none, none⟩,
   ⟨(some 4), .mv (.t 20), none, none⟩])
  .ret))
def c_atom_Class_1 (f_span_Has : FuncId) : AC :=
  (.seq (.reg none [
   ⟨(some 3), .mv (.c (.v (.bool false))), none, none⟩])
  (.seq (.reg none [
   ⟨(some 4), .mv (.t 0), none, none⟩,
   ⟨(some 5), .load none (.t 1), none, none⟩,
   ⟨(some 6), .mv (.c .junk), none, (some ((.c (.clo f_span_Has [] [])), [(.t 4), (.t 5)]))⟩,
   ⟨(some 3), .mv (.t 6), none, none⟩])
  .ret))
def c_atom_Class (f_atom_Class_1 f_slices_IndexFunc_SSapi_Range_Sapi_Range_ : FuncId) : AC :=
  (.seq (.reg none [
   ⟨(some 3), .box 1 (.t 1), none, none⟩,
   ⟨(some 4), .mv (.c (.v (.int .i64 0))), none, none⟩])
  (.seq (.reg none [
   ⟨(some 5), .mv (.t 0), none, none⟩,
   ⟨(some 6), .mkf f_atom_Class_1 [] [(.t 3)], none, none⟩,
   ⟨(some 7), .mv (.c .junk), none, (some ((.c (.clo f_slices_IndexFunc_SSapi_Range_Sapi_Range_ [] [])), [(.t 5), (.t 6)]))⟩,
   ⟨(some 4), .mv (.t 7), none, none⟩])
  .ret))
def c_sign_Word_1 (f_atom_Class : FuncId) : AC :=
  (.seq (.reg none [
   ⟨(some 3), .mv (.c (.v (.int .i64 0))), none, none⟩])
  (.seq (.reg none [
   ⟨(some 4), .load none (.t 1), none, none⟩,
   ⟨(some 5), .mv (.t 0), none, none⟩,
   ⟨(some 6), .mv (.c .junk), none, (some ((.c (.clo f_atom_Class [] [])), [(.t 4), (.t 5)]))⟩,
   ⟨(some 3), .mv (.t 6), none, none⟩])
  .ret))
def c_se_in : AC :=
  (.loop (.seq (.reg none [
     ⟨(some 13), .bin .lss (.t 12) (.t 11), none, none⟩])
    (.seq (.cond (.t 13) .skip (.exit 0))
    (.seq (.block 1 (.seq (.reg none [
      ⟨(some 14), .idxA 1 (.t 10) (.t 12), none, none⟩,
      ⟨(some 15), .load none (.t 14), none, none⟩,
      ⟨(some 8), .mv (.t 15), none, none⟩])
     (.seq (.reg none [
      ⟨(some 16), .mv (.t 1), none, none⟩,
      ⟨(some 17), .mv (.t 8), none, none⟩,
      ⟨(some 18), .mv (.c .junk), none, (some ((.t 16), [(.t 17)]))⟩,
      ⟨(some 9), .mv (.t 18), none, none⟩])
     (.seq (.seq (.reg none [
      ⟨(some 19), .mv (.t 9), none, none⟩,
      ⟨(some 20), .bin .lss (.t 19) (.c (.v (.int .i64 0))), none, none⟩])
     (.cond (.t 20) (.seq (.reg none [
       ⟨(some 4), .mv (.c (.sl true [])), none, none⟩,
       ⟨(some 5), .mv (.c (.v (.int .i64 1))), none, none⟩])
      .ret) .skip))
     (.reg none [
      ⟨(some 21), .mv (.t 6), none, none⟩,
      ⟨(some 22), .mv (.t 9), none, none⟩,
      ⟨(some 23), .bslice 1 1 (.v (.int .i64 0)) [(0, (.t 22))], none, none⟩,
      ⟨(some 24), .app 1 8 (.t 21) (.t 23), none, none⟩,
      ⟨(some 6), .mv (.t 24), none, none⟩])))))
    (.reg none [
     ⟨(some 25), .bin .add (.t 12) (.c (.v (.int .i64 1))), none, none⟩,
     ⟨(some 12), .mv (.t 25), none, none⟩])))))
def c_sign_each : AC :=
  (.seq (.reg none [
   ⟨(some 4), .mv (.c (.sl true [])), none, none⟩,
   ⟨(some 5), .mv (.c (.v (.int .i64 0))), none, none⟩])
  (.seq (.reg none [
   ⟨(some 6), .mv (.c (.sl true [])), none, none⟩])
  (.seq (.seq (.reg none [
   ⟨(some 10), .mv (.t 0), none, none⟩,
   ⟨(some 11), .len (.t 10), none, none⟩,
   ⟨(some 12), .mv (.c (.v (.int .i64 0))), none, none⟩])
  (.block 0 c_se_in))
  (.seq (.reg none [
   ⟨(some 26), .mv (.t 6), none, none⟩,
   ⟨(some 4), .mv (.t 26), none, none⟩,
   ⟨(some 5), .mv (.c (.v (.int .i64 0))), none, none⟩])
  .ret))))
def c_sign_Word (f_sign_Word_1 f_sign_each : FuncId) : AC :=
  (.seq (.reg none [
   ⟨(some 2), .box 1 (.t 0), none, none⟩,
   ⟨(some 4), .mv (.c (.sl true [])), none, none⟩,
   ⟨(some 5), .mv (.c (.v (.int .i64 0))), none, none⟩])
  (.seq (.reg none [
   ⟨(some 6), .mv (.t 1), none, none⟩,
   ⟨(some 7), .mkf f_sign_Word_1 [] [(.t 2)], none, none⟩,
   ⟨(some 8), .mv (.c .junk), none, (some ((.c (.clo f_sign_each [] [])), [(.t 6), (.t 7)]))⟩,
   ⟨(some 9), .ext 0 (.t 8), none, none⟩,
   ⟨(some 10), .ext 1 (.t 8), none, none⟩,
   ⟨(some 4), .mv (.t 9), none, none⟩,
   ⟨(some 5), .mv (.t 10), none, none⟩])
  .ret))
def c_match_At (f_path_Write f_det_Accepts : FuncId) : AC :=
  (.seq (.reg none [
   ⟨(some 3), .box 3 (.t 0), none, none⟩,
   ⟨(some 6), .mv (.c (.v (.bool false))), none, none⟩])
  (.seq (.reg none [
   ⟨(some 8), .mv (.t 1), none, none⟩,
   ⟨(some 9), .mv (.t 2), none, none⟩,
   ⟨(some 10), .mv (.c .junk), none, (some ((.c (.clo f_path_Write [] [])), [(.t 8), (.t 9)]))⟩,
   ⟨(some 7), .mv (.t 10), none, none⟩])
  (.seq (.reg none [
   ⟨(some 11), .mv (.t 7), none, none⟩,
   ⟨(some 12), .len (.t 11), none, none⟩,
   ⟨(some 13), .bin .gtr (.t 12) (.c (.v (.int .i64 0))), none, none⟩,
   ⟨(some 14), .mv (.t 13), none, none⟩,
   ⟨(some 15), .load (some 3) (.t 3), (some (14, true)), none⟩,
   ⟨(some 16), .mv (.t 7), (some (14, true)), none⟩,
   ⟨(some 17), .mv (.c .junk), (some (14, true)), (some ((.c (.clo f_det_Accepts [] [])), [(.t 15), (.t 16)]))⟩,
   ⟨(some 18), .pick (.t 14) (.t 17) (.c (.v (.bool false))), none, none⟩,
   ⟨(some 6), .mv (.t 18), none, none⟩])
  .ret)))
def c_wit_Shows (f_sign_Word f_match_At : FuncId) : AC :=
  (.seq (.reg none [
   ⟨(some 3), .box 3 (.t 0), none, none⟩,
   ⟨(some 5), .box 2 (.t 2), none, none⟩,
   ⟨(some 6), .mv (.c (.v (.bool false))), none, none⟩])
  (.seq (.reg none [
   ⟨(some 10), .mv (.t 1), none, none⟩,
   ⟨(some 11), .fieldA 0 (.t 5), none, none⟩,
   ⟨(some 12), .load none (.t 11), none, none⟩,
   ⟨(some 13), .mv (.c .junk), none, (some ((.c (.clo f_sign_Word [] [])), [(.t 10), (.t 12)]))⟩,
   ⟨(some 9), .mv (.t 13), none, none⟩,
   ⟨(some 14), .ext 0 (.t 9), none, none⟩,
   ⟨(some 15), .ext 1 (.t 9), none, none⟩,
   ⟨(some 7), .mv (.t 14), none, none⟩,
   ⟨(some 8), .mv (.t 15), none, none⟩])
  (.seq (.reg none [
   ⟨(some 16), .mv (.t 8), none, none⟩,
   ⟨(some 17), .bin .eql (.t 16) (.c (.v (.int .i64 0))), none, none⟩,
   ⟨(some 18), .mv (.t 17), none, none⟩,
   ⟨(some 19), .load (some 3) (.t 3), (some (18, true)), none⟩,
   ⟨(some 20), .mv (.t 7), (some (18, true)), none⟩,
   ⟨(some 21), .fieldA 1 (.t 5), (some (18, true)), none⟩,
   ⟨(some 22), .load none (.t 21), (some (18, true)), none⟩,
   ⟨(some 23), .mv (.c .junk), (some (18, true)), (some ((.c (.clo f_match_At [] [])), [(.t 19), (.t 20), (.t 22)]))⟩,
   ⟨(some 24), .pick (.t 18) (.t 23) (.c (.v (.bool false))), none, none⟩,
   ⟨(some 6), .mv (.t 24), none, none⟩])
  .ret)))
theorem cells_Rg (r : Rg) : (encR r).cells = [.v (.int .i64 r.low), .v (.int .i64 r.high)] := rfl
theorem closed_Rgx (l : List Rg) : Closed (.sl false (l.map encR)) := closed_Rs l
def irI (p : Rg → Bool) (l : List Rg) (k : Nat) (_ : Unit) : Prop := ∀ j (h : j < l.length), j < k → p l[j] = false
def irA (l : List Rg) (g : FuncId) (cap : List AV) (k : Nat) (_ : Unit) : List (Nat × AV) := [(0, .sl false (l.map encR)), (1, .clo g [] cap), (7, encI l.length), (8, encI k)]
def noGl (_ : Nat) (_ : Unit) : List (Nat × Option Blk) := []
theorem idxF_found {X : Type} {p : X → Bool} {l : List X} {k : Nat} (hk : k < l.length) (hp : p l[k] = true) (hn : ∀ j (h : j < l.length), j < k → p l[j] = false) : idxF p l = k := by
  have h1 : l.any p = true := List.any_eq_true.mpr ⟨_, List.getElem_mem hk, hp⟩
  have h2 : l.findIdx p = k := (List.findIdx_eq hk).mpr ⟨hp, fun j hj => hn j (by omega) hj⟩
  simp only [idxF]
  rw [if_pos h1, h2]
theorem idxF_no {X : Type} {p : X → Bool} {l : List X} (hn : ∀ j (h : j < l.length), p l[j] = false) : idxF p l = -1 := by
  have h1 : l.any p = false := by
    rw [List.any_eq_false]
    intro x hx
    obtain ⟨j, hj, rfl⟩ := List.mem_iff_getElem.mp hx
    simp [hn j hj]
  simp [idxF, h1]
theorem closed_clo {g : FuncId} {cap : List AV} (h : ∀ y ∈ cap, Closed y) : Closed (.clo g [] cap) := .clo _ _ _ cl_nil h
theorem idxR_body {P : Program} {l : List Rg} {p : Rg → Bool} {g : FuncId} {cap : List AV} (hl : Len l) (hcap : ∀ y ∈ cap, Closed y) (hp : ∀ x, PureC P g (encR x :: cap) (encB (p x))) :
    AWb P 0 c_slices_IndexFunc_Sapi_Range_api_Range_ (RetK [4] (FzK (encI (idxF p l)))) (argF [.sl false (l.map encR), .clo g [] cap]) S0 := by
  unfold Len at hl
  simp [c_slices_IndexFunc_Sapi_Range_api_Range_, c_ir_in]
  refine AWb_for l.length (irI p l) (irA l g cap) 0 noGl () (fun j h hj => by omega) ?_ ?_
  · refine Abs.of [] [] (by omega) ⟨by simp, by simp⟩ ?_ ?_
    · simp [RenL_snoc, RenL.cl, RenV.cl, Z2r, Z2o, Z2s, Z2t, Z2p, Z2v, Z2u, Z2q, Z2w, Z2x, Z1d, Z1c, Z1b, Z19, Z18, Z1a, Z1e, Z52, Z4v, Z4z, Z3y, Z51, Z50, Z3z, Z1p, Z1q, Z1x, Z1v, Z1w, Z1u, Z1t, Z1s, Z1r, Z44, Z43, Z42, Z4e, Z4f, Z22, Z23, Z3d, Z3e, Z27, Z26, vV_t, vV_f, vB_t, vB_f, encI, encB, noGl]
    · simp [RenL_snoc, RenL.cl, RenV.cl, Z2r, Z2o, Z2s, Z2t, Z2p, Z2v, Z2u, Z2q, Z2w, Z2x, Z1d, Z1c, Z1b, Z19, Z18, Z1a, Z1e, Z52, Z4v, Z4z, Z3y, Z51, Z50, Z3z, Z1p, Z1q, Z1x, Z1v, Z1w, Z1u, Z1t, Z1s, Z1r, Z44, Z43, Z42, Z4e, Z4f, Z22, Z23, Z3d, Z3e, Z27, Z26, vV_t, vV_f, vB_t, vB_f, encI, encB, irA, closed_Rgx, closed_clo hcap]
  · rintro k _ hk hI
    by_cases hlt : k < l.length
    · have hsk : l[k]? = some l[k] := List.getElem?_eq_getElem hlt
      have hx := hp l[k]
      have hcx : Closed (encR l[k]) := closed_R _
      generalize hgx : l[k] = x at *
      cases hpx : p x with
      | true =>
        rw [hpx] at hx
        rw [idxF_found hlt (by rw [hgx]; exact hpx) hI]
        simp [irA, noGl, hlt, hsk, hgx, cells_Rg]
        refine CallR.pure hx (cl_cons hcx hcap) (Z2o _) ?_
        simp
        exact FzK_I _ _
      | false =>
        rw [hpx] at hx
        simp [irA, noGl, hlt, hsk, hgx, cells_Rg]
        refine CallR.pure hx (cl_cons hcx hcap) (Z2o _) ?_
        simp
        rw [wrap_in _ (by omega)]
        refine ⟨hlt, (), fun j h hj => ?_, Abs.of [] [] (by omega) ⟨by simp, by simp⟩ ?_ ?_⟩
        · by_cases hjk : j = k
          · subst hjk; rw [hgx]; exact hpx
          · exact hI j h (by omega)
        · simp [RenL_snoc, RenL.cl, RenV.cl, Z2r, Z2o, Z2s, Z2t, Z2p, Z2v, Z2u, Z2q, Z2w, Z2x, Z1d, Z1c, Z1b, Z19, Z18, Z1a, Z1e, Z52, Z4v, Z4z, Z3y, Z51, Z50, Z3z, Z1p, Z1q, Z1x, Z1v, Z1w, Z1u, Z1t, Z1s, Z1r, Z44, Z43, Z42, Z4e, Z4f, Z22, Z23, Z3d, Z3e, Z27, Z26, vV_t, vV_f, vB_t, vB_f, encI, encB, noGl]
        · simp [RenL_snoc, RenL.cl, RenV.cl, Z2r, Z2o, Z2s, Z2t, Z2p, Z2v, Z2u, Z2q, Z2w, Z2x, Z1d, Z1c, Z1b, Z19, Z18, Z1a, Z1e, Z52, Z4v, Z4z, Z3y, Z51, Z50, Z3z, Z1p, Z1q, Z1x, Z1v, Z1w, Z1u, Z1t, Z1s, Z1r, Z44, Z43, Z42, Z4e, Z4f, Z22, Z23, Z3d, Z3e, Z27, Z26, vV_t, vV_f, vB_t, vB_f, encI, encB, irA, closed_Rgx, closed_clo hcap]
    · have hke : k = l.length := by omega
      subst hke
      rw [idxF_no (fun j h => hI j h h)]
      simp [irA, noGl]
      exact FzK_I _ _
theorem conR_body {P : Program} {fi : FuncId} {l : List Rg} {p : Rg → Bool} {g : FuncId} {cap : List AV} (hcap : ∀ y ∈ cap, Closed y) (hi : PureC P fi [.sl false (l.map encR), .clo g [] cap] (encI (idxF p l))) :
    AWb P 0 (c_slices_ContainsFunc_Sapi_Range_api_Range_ fi) (RetK [4] (FzK (encB (l.any p)))) (argF [.sl false (l.map encR), .clo g [] cap]) S0 := by
  simp [c_slices_ContainsFunc_Sapi_Range_api_Range_]
  refine CallR.pure hi (cl_cons (closed_Rgx l) (cl_cons (closed_clo hcap) cl_nil)) (Z2r _) ?_
  cases ha : l.any p with
  | true =>
    have : idxF p l = (l.findIdx p : Int) := by simp only [idxF]; rw [if_pos ha]
    have h0 : (0 : Int) ≤ idxF p l := by rw [this]; omega
    simp [h0]
    exact FzK_B true _
  | false =>
    have : idxF p l = -1 := by simp [idxF, ha]
    simp [this]
    exact FzK_B false _
theorem has1_body {P : Program} (r : Rg) (c : Int) : AWb P 0 c_span_Has_1 (RetK [3] (FzK (encB (inR r c)))) (argF [encR r, .eptr (encI c) 0]) S0 := by
  unfold inR
  by_cases h1 : r.low ≤ c
  · by_cases h2 : c ≤ r.high
    · simp [c_span_Has_1, encR, h1, h2]
      exact FzK_B true _
    · simp [c_span_Has_1, encR, h1, h2]
      exact FzK_B false _
  · simp [c_span_Has_1, encR, h1]
    exact FzK_B false _
theorem spanHas_body {P : Program} {f1 fc : FuncId} (l : List Rg) (c : Int) (hl : Len l) (hc : PureC P fc [.sl false (l.map encR), .clo f1 [] [.eptr (encI c) 0]] (encB (l.any fun r => inR r c))) :
    AWb P 0 (c_span_Has f1 fc) (RetK [4] (FzK (encB (hasR l c)))) (argF [encRs l, encI c]) S0 := by
  have e : encRs l = .sl false (l.map encR) := rfl
  by_cases h1 : 0 ≤ c
  · by_cases h2 : c ≤ 1114111
    · by_cases h3 : (l.length : Int) ≤ 400
      · have h3' : l.length ≤ 400 := by omega
        have hr : hasR l c = l.any fun r => inR r c := by simp [hasR, hasIn, h1, h2, h3']
        rw [hr]
        simp [c_span_Has, e, h1, h2, h3, h3']
        refine CallR.looks hc (FzL.cons (.closed _ (closed_Rgx l)) (FzL.cons (.clo0 (FzL.cons (.box 0 0 1 _ _ (by simp [Z4e, encI]) (.closed _ (Z2r c))) FzL.nil)) FzL.nil)) (.v _) ?_
        simp
        exact FzK_B _ _
      · have h3' : ¬ l.length ≤ 400 := by omega
        have hr : hasR l c = false := by simp [hasR, h3']
        rw [hr]
        simp [c_span_Has, e, h1, h2, h3, h3']
        exact FzK_B false _
    · have hr : hasR l c = false := by simp [hasR, h2]
      rw [hr]
      simp [c_span_Has, e, h1, h2]
      exact FzK_B false _
  · have hr : hasR l c = false := by simp [hasR, h1]
    rw [hr]
    simp [c_span_Has, e, h1]
    exact FzK_B false _
theorem class1_body {P : Program} {fh : FuncId} (a : List Rg) (c : Int) (hh : PureC P fh [encRs a, encI c] (encB (hasR a c))) : AWb P 0 (c_atom_Class_1 fh) (RetK [3] (FzK (encB (hasR a c)))) (argF [encRs a, .eptr (encI c) 0]) S0 := by
  simp [c_atom_Class_1]
  refine CallR.pure hh (cl_cons (closed_Rs a) (cl_cons (Z2r c) cl_nil)) (Z2o _) ?_
  simp
  exact FzK_B _ _
theorem class_body {P : Program} {f1 fi : FuncId} (atoms : List (List Rg)) (c : Int) (hi : PureC P fi [encRss atoms, .clo f1 [] [.eptr (encI c) 0]] (encI (classF atoms c))) :
    AWb P 0 (c_atom_Class f1 fi) (RetK [4] (FzK (encI (classF atoms c)))) (argF [encRss atoms, encI c]) S0 := by
  have hcl : Closed (encRss atoms) := closed_Rss atoms
  simp [c_atom_Class]
  refine CallR.looks hi (FzL.cons (.closed _ hcl) (FzL.cons (.clo0 (FzL.cons (.box 0 0 1 _ _ (by simp [Z4e, encI]) (.closed _ (Z2r c))) FzL.nil)) FzL.nil)) (.v _) ?_
  simp
  exact FzK_I _ _
theorem word1_body {P : Program} {fc : FuncId} (atoms : List (List Rg)) (c : Int) (hh : PureC P fc [encRss atoms, encI c] (encI (classF atoms c))) : AWb P 0 (c_sign_Word_1 fc) (RetK [3] (FzK (encI (classF atoms c)))) (argF [encI c, .eptr (encRss atoms) 0]) S0 := by
  have e : (encRss atoms).cells = [encRss atoms] := rfl
  simp [c_sign_Word_1, e]
  refine CallR.pure hh (cl_cons (closed_Rss atoms) (cl_cons (Z2r c) cl_nil)) (Z2r _) ?_
  simp
  exact FzK_I _ _
/-! ### words -/
/-- Each one's number, if all have one. -/
def eachF (f : Int → Int) (l : List Int) : List Int × Int := if l.any (fun c => decide (f c < 0)) = true then ([], 1) else (l.map f, 0)
def encWd (r : List Int × Int) : AV := .tup [encIs r.1, encI r.2]
theorem closed_Wd (r : List Int × Int) : Closed (encWd r) := .tup _ (cl_cons (Z2s _) (cl_cons (Z2r _) cl_nil))
def mkW (f : Int → Int) (l : List Int) (k : Nat) : List Int := (l.take k).map f
theorem mkW_zero (f : Int → Int) (l : List Int) : mkW f l 0 = [] := rfl
theorem mkW_succ {f : Int → Int} {l : List Int} {k : Nat} (h : k < l.length) : mkW f l (k + 1) = mkW f l k ++ [f l[k]] := by
  unfold mkW
  rw [List.take_add_one, List.getElem?_eq_getElem h, Option.toList_some, List.map_append]; rfl
theorem mkW_len {f : Int → Int} {l : List Int} {k : Nat} (h : k ≤ l.length) : (mkW f l k).length = k := by unfold mkW; simp; omega
theorem mkW_all (f : Int → Int) (l : List Int) : mkW f l l.length = l.map f := by unfold mkW; rw [List.take_length]
def seI (f : Int → Int) (l : List Int) (k : Nat) (_ : Bool) : Prop := ∀ j (h : j < l.length), j < k → 0 ≤ f l[j]
def seA (f : Int → Int) (l : List Int) (g : FuncId) (cap : List AV) (k : Nat) (o : Bool) : List (Nat × AV) := [(1, .clo g [] cap), (6, vV o 0 ((mkW f l k).map encI)), (10, encIs l), (11, encI l.length), (12, encI k)]
def seG (f : Int → Int) (l : List Int) (k : Nat) (o : Bool) : List (Nat × Option Blk) := [(0, vB o 1 ((mkW f l k).map encI))]
theorem each_body {P : Program} (f : Int → Int) (l : List Int) (hl : l.length ≤ 1000000) {g : FuncId} {cap : List AV} (hcap : ∀ y ∈ cap, Closed y) (hp : ∀ x ∈ l, PureC P g (encI x :: cap) (encI (f x))) :
    AWb P 0 c_sign_each (RetK [4, 5] (FzK (encWd (eachF f l)))) (argF [encIs l, .clo g [] cap]) S0 := by
  simp [c_sign_each, c_se_in]
  refine AWb_for l.length (seI f l) (seA f l g cap) 5 (seG f l) false (fun j h hj => by omega) ?_ ?_
  · refine Abs.of [] [] (by omega) ⟨by simp, by simp⟩ ?_ ?_
    · simp [RenL_snoc, RenL.cl, RenV.cl, Z2r, Z2o, Z2s, Z2t, Z2p, Z2v, Z2u, Z2q, Z2w, Z2x, Z1d, Z1c, Z1b, Z19, Z18, Z1a, Z1e, Z52, Z4v, Z4z, Z3y, Z51, Z50, Z3z, Z1p, Z1q, Z1x, Z1v, Z1w, Z1u, Z1t, Z1s, Z1r, Z44, Z43, Z42, Z4e, Z4f, Z22, Z23, Z3d, Z3e, Z27, Z26, vV_t, vV_f, vB_t, vB_f, encI, encB, seG, mkW_zero]
    · simp [RenL_snoc, RenL.cl, RenV.cl, Z2r, Z2o, Z2s, Z2t, Z2p, Z2v, Z2u, Z2q, Z2w, Z2x, Z1d, Z1c, Z1b, Z19, Z18, Z1a, Z1e, Z52, Z4v, Z4z, Z3y, Z51, Z50, Z3z, Z1p, Z1q, Z1x, Z1v, Z1w, Z1u, Z1t, Z1s, Z1r, Z44, Z43, Z42, Z4e, Z4f, Z22, Z23, Z3d, Z3e, Z27, Z26, vV_t, vV_f, vB_t, vB_f, encI, encB, seA, mkW_zero, closed_clo hcap]
  · rintro k o hk hI
    by_cases hlt : k < l.length
    · have hsk : l[k]? = some l[k] := List.getElem?_eq_getElem hlt
      have hsd : l.getD k 0 = l[k] := getD_I hlt
      have htk := mkW_succ (f := f) hlt
      have hx := hp l[k] (List.getElem_mem hlt)
      have hlen := mkW_len (f := f) hk
      have hap : appOk 8 k 1 := by unfold appOk; omega
      by_cases hneg : f l[k] < 0
      · have hr : eachF f l = ([], 1) := by
          unfold eachF
          rw [if_pos (List.any_eq_true.mpr ⟨l[k], List.getElem_mem hlt, by simpa using hneg⟩)]
        rw [hr]
        simp [seA, seG, hlt, hsd]
        refine CallR.pure hx (cl_cons (Z2r _) hcap) (Z2r _) ?_
        simp [hneg]
        exact .tupL (.cons fz_nil (.cons (.closed _ (.v _)) .nil))
      · simp [seA, seG, hlt, hsd]
        refine CallR.pure hx (cl_cons (Z2r _) hcap) (Z2r _) ?_
        simp [hneg, hlen, hap]
        rw [wrap_in _ (by omega)]
        refine ⟨hlt, true, fun j h hj => ?_, Abs.of [(0, 18)] [] (by omega) ⟨by simp, by simp⟩ ?_ ?_⟩
        · by_cases hjk : j = k
          · subst hjk; omega
          · exact hI j h (by omega)
        · simp [RenL_snoc, RenL.cl, RenV.cl, Z2r, Z2o, Z2s, Z2t, Z2p, Z2v, Z2u, Z2q, Z2w, Z2x, Z1d, Z1c, Z1b, Z19, Z18, Z1a, Z1e, Z52, Z4v, Z4z, Z3y, Z51, Z50, Z3z, Z1p, Z1q, Z1x, Z1v, Z1w, Z1u, Z1t, Z1s, Z1r, Z44, Z43, Z42, Z4e, Z4f, Z22, Z23, Z3d, Z3e, Z27, Z26, vV_t, vV_f, vB_t, vB_f, encI, encB, seG, htk]
        · simp [RenL_snoc, RenL.cl, RenV.cl, Z2r, Z2o, Z2s, Z2t, Z2p, Z2v, Z2u, Z2q, Z2w, Z2x, Z1d, Z1c, Z1b, Z19, Z18, Z1a, Z1e, Z52, Z4v, Z4z, Z3y, Z51, Z50, Z3z, Z1p, Z1q, Z1x, Z1v, Z1w, Z1u, Z1t, Z1s, Z1r, Z44, Z43, Z42, Z4e, Z4f, Z22, Z23, Z3d, Z3e, Z27, Z26, vV_t, vV_f, vB_t, vB_f, encI, encB, seA, htk, hlen, closed_clo hcap]
    · have hke : k = l.length := by omega
      subst hke
      have hr : eachF f l = (l.map f, 0) := by
        unfold eachF
        rw [if_neg]
        intro h
        obtain ⟨x, hx, h⟩ := List.any_eq_true.mp h
        obtain ⟨j, hj, rfl⟩ := List.mem_iff_getElem.mp hx
        have := hI j hj hj
        simp at h; omega
      rw [hr]
      simp [seA, seG, mkW_all]
      rw [show List.map (encI ∘ f) l = (l.map f).map encI by rw [List.map_map]]
      exact .tupL (.cons (vV_fz (by simp [gOf]) (Z19 _)) (.cons (.closed _ (.v _)) .nil))
/-- A text's signs, if all its characters are in some atom. -/
def wordF (atoms : List (List Rg)) (l : List Int) : List Int × Int := eachF (classF atoms) l
theorem word_body {P : Program} {f1 fe : FuncId} (atoms : List (List Rg)) (l : List Int) (he : PureC P fe [encIs l, .clo f1 [] [.eptr (encRss atoms) 0]] (encWd (wordF atoms l))) :
    AWb P 0 (c_sign_Word f1 fe) (RetK [4, 5] (FzK (encWd (wordF atoms l)))) (argF [encRss atoms, encIs l]) S0 := by
  have e : (encRss atoms).cells = [encRss atoms] := rfl
  have e2 : (encRss atoms).solid = true := rfl
  generalize wordF atoms l = r at *
  simp [c_sign_Word, e, e2]
  refine CallR.gives [0] he (FzL.cons (.closed _ (Z2s l)) (FzL.cons (.clo0 (FzL.cons ?_ FzL.nil)) FzL.nil)) (closed_Wd r) ?_
  · exact .box 0 0 1 _ _ (by simp [only_g, Z4e]) (.closed _ (closed_Rss atoms))
  unfold encWd
  simp
  exact .closed _ (closed_Wd r)
/-! ### a marked list's acceptance -/
def atF (d : Det) (l : List Int) (p : Int) : Bool := decide (0 < (writeS l p).length) && accD d (writeS l p)
theorem at_body {P : Program} {fw fa : FuncId} (d : Det) (l : List Int) (p : Int) (hw : PureC P fw [encIs l, encI p] (encIs (writeS l p))) (ha : PureC P fa [encDet d, encIs (writeS l p)] (encB (accD d (writeS l p)))) :
    AWb P 0 (c_match_At fw fa) (RetK [6] (FzK (encB (atF d l p)))) (argF [encDet d, encIs l, encI p]) S0 := by
  unfold atF
  generalize writeS l p = w at *
  generalize accD d w = ac at *
  have hd := closed_Det d
  simp [c_match_At]
  refine CallR.pure hw (cl_cons (Z2s _) (cl_cons (Z2r _) cl_nil)) (Z2s _) ?_
  by_cases h0 : 0 < w.length
  · simp [h0]
    refine CallR.pure ha (cl_cons hd (cl_cons (Z2s _) cl_nil)) (Z2o _) ?_
    simp
    exact FzK_B _ _
  · simp [h0]
    exact FzK_B false _
def showsF (d : Det) (atoms : List (List Rg)) (w : Wit) : Bool := decide ((wordF atoms w.text).2 = 0) && atF d (wordF atoms w.text).1 w.place
theorem shows_body {P : Program} {fw fa : FuncId} (d : Det) (atoms : List (List Rg)) (w : Wit) (hw : PureC P fw [encRss atoms, encIs w.text] (encWd (wordF atoms w.text)))
    (ha : PureC P fa [encDet d, encIs (wordF atoms w.text).1, encI w.place] (encB (atF d (wordF atoms w.text).1 w.place))) :
    AWb P 0 (c_wit_Shows fw fa) (RetK [6] (FzK (encB (showsF d atoms w)))) (argF [encDet d, encRss atoms, encWj w]) S0 := by
  unfold showsF
  generalize wordF atoms w.text = r at *
  generalize atF d r.1 w.place = b at *
  have hd := closed_Det d
  have ew : encWj w = .agg [encIs w.text, encI w.place] := rfl
  have hwd := closed_Wd r
  unfold encWd at hw hwd
  simp [c_wit_Shows, ew]
  refine CallR.pure hw (cl_cons (closed_Rss _) (cl_cons (Z2s _) cl_nil)) hwd ?_
  by_cases h0 : r.2 = 0
  · simp [h0]
    refine CallR.pure ha (cl_cons hd (cl_cons (Z2s _) (cl_cons (Z2r _) cl_nil))) (Z2o _) ?_
    simp
    exact FzK_B _ _
  · have h0' : (r.2 == 0) = false := by simpa using h0
    simp [h0, h0']
    exact FzK_B false _
end Go.Rf

