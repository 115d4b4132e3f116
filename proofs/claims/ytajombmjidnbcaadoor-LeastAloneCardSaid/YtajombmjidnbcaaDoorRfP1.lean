import Derived.Test.YtajombmjidnbcaaDoorRfQ1
import Derived.Test.YtajombmjidnbcaaDoorRfQ3
import Derived.Test.YtajombmjidnbcaaDoorRfG1
import Derived.Lib.ItoaLen
/- Own work: classes of states, as least's code tells them. -/
set_option linter.unusedVariables false
set_option linter.unusedSimpArgs false
namespace Go.Rf
open Go.RowKit
def c_least_coarse : AC :=
  (.seq (.reg none [
   ⟨(some 1), .box 3 (.t 0), none, none⟩,
   ⟨(some 2), .mv (.c (.sl true [])), none, none⟩])
  (.seq (.reg none [
   ⟨(some 3), .mv (.c (.sl true [])), none, none⟩])
  (.seq (.seq (.reg none [
   ⟨(some 7), .fieldA 2 (.t 1), none, none⟩,
   ⟨(some 8), .load none (.t 7), none, none⟩,
   ⟨(some 9), .len (.t 8), none, none⟩,
   ⟨(some 10), .mv (.c (.v (.int .i64 0))), none, none⟩])
  (.block 0 (.loop (.seq (.reg none [
     ⟨(some 11), .bin .lss (.t 10) (.t 9), none, none⟩])
    (.seq (.cond (.t 11) .skip (.exit 0))
    (.seq (.block 1 (.seq (.reg none [
      ⟨(some 12), .idxA 1 (.t 8) (.t 10), none, none⟩,
      ⟨(some 13), .load none (.t 12), none, none⟩,
      ⟨(some 5), .mv (.t 13), none, none⟩])
     (.seq (.reg none [
      ⟨(some 6), .mv (.c (.v (.int .i64 0))), none, none⟩])
     (.seq (.seq (.reg none [
      ⟨(some 14), .mv (.t 5), none, none⟩])
     (.cond (.t 14) (.reg none [
       ⟨(some 6), .mv (.c (.v (.int .i64 1))), none, none⟩]) .skip))
     (.reg none [
      ⟨(some 15), .mv (.t 3), none, none⟩,
      ⟨(some 16), .mv (.t 6), none, none⟩,
      ⟨(some 17), .bslice 1 1 (.v (.int .i64 0)) [(0, (.t 16))], none, none⟩,
      ⟨(some 18), .app 1 8 (.t 15) (.t 17), none, none⟩,
      ⟨(some 3), .mv (.t 18), none, none⟩])))))
    (.reg none [
     ⟨(some 19), .bin .add (.t 10) (.c (.v (.int .i64 1))), none, none⟩,
     ⟨(some 10), .mv (.t 19), none, none⟩])))))))
  (.seq (.reg none [
   ⟨(some 20), .mv (.t 3), none, none⟩,
   ⟨(some 2), .mv (.t 20), none, none⟩])
  .ret))))
def c_least_view_loop (f_strconv_Itoa f_strings_Builder_WriteString f_strings_Builder_WriteByte : FuncId) : AC :=
  (.loop (.seq (.reg none [
     ⟨(some 23), .bin .lss (.t 22) (.t 21), none, none⟩])
    (.seq (.cond (.t 23) .skip (.exit 0))
    (.seq (.block 1 (.seq (.reg none [
      ⟨(some 24), .idxA 1 (.t 20) (.t 22), none, none⟩,
      ⟨(some 25), .load none (.t 24), none, none⟩,
      ⟨(some 9), .mv (.t 25), none, none⟩])
     (.seq (.reg none [
      ⟨(some 26), .mv (.c .junk), none, (some ((.c (.clo f_strings_Builder_WriteByte [] [])), [(.t 7), (.c (.v (.int .u8 44)))]))⟩])
     (.reg none [
      ⟨(some 27), .mv (.t 1), none, none⟩,
      ⟨(some 28), .mv (.t 9), none, none⟩,
      ⟨(some 29), .idxA 1 (.t 27) (.t 28), none, none⟩,
      ⟨(some 30), .load none (.t 29), none, none⟩,
      ⟨(some 31), .mv (.c .junk), none, (some ((.c (.clo f_strconv_Itoa [] [])), [(.t 30)]))⟩,
      ⟨(some 32), .mv (.c .junk), none, (some ((.c (.clo f_strings_Builder_WriteString [] [])), [(.t 7), (.t 31)]))⟩]))))
    (.reg none [
     ⟨(some 33), .bin .add (.t 22) (.c (.v (.int .i64 1))), none, none⟩,
     ⟨(some 22), .mv (.t 33), none, none⟩])))))
def c_least_view_in (f_strconv_Itoa f_strings_Builder_WriteString f_strings_Builder_WriteByte f_strings_Builder_String : FuncId) : AC :=
  (.seq (.reg none [
   ⟨(some 10), .mv (.t 1), none, none⟩,
   ⟨(some 11), .mv (.t 2), none, none⟩,
   ⟨(some 12), .idxA 1 (.t 10) (.t 11), none, none⟩,
   ⟨(some 13), .load none (.t 12), none, none⟩,
   ⟨(some 14), .mv (.c .junk), none, (some ((.c (.clo f_strconv_Itoa [] [])), [(.t 13)]))⟩,
   ⟨(some 15), .mv (.c .junk), none, (some ((.c (.clo f_strings_Builder_WriteString [] [])), [(.t 7), (.t 14)]))⟩])
  (.seq (.seq (.reg none [
   ⟨(some 16), .fieldA 1 (.t 3), none, none⟩,
   ⟨(some 17), .load none (.t 16), none, none⟩,
   ⟨(some 18), .mv (.t 2), none, none⟩,
   ⟨(some 19), .idxA 1 (.t 17) (.t 18), none, none⟩,
   ⟨(some 20), .load none (.t 19), none, none⟩,
   ⟨(some 21), .len (.t 20), none, none⟩,
   ⟨(some 22), .mv (.c (.v (.int .i64 0))), none, none⟩])
  (.block 0 (c_least_view_loop f_strconv_Itoa f_strings_Builder_WriteString f_strings_Builder_WriteByte)))
  (.seq (.reg none [
   ⟨(some 34), .mv (.c .junk), none, (some ((.c (.clo f_strings_Builder_String [] [])), [(.t 7)]))⟩,
   ⟨(some 6), .mv (.t 34), none, none⟩])
  .ret)))
def c_least_view (f_strconv_Itoa f_strings_Builder_WriteString f_strings_Builder_WriteByte f_strings_Builder_String : FuncId) : AC :=
  (.seq (.reg none [
   ⟨(some 3), .box 3 (.t 0), none, none⟩,
   ⟨(some 6), .mv (.c (.v (.string ⟨#[]⟩))), none, none⟩])
  (.seq (.reg none [
   ⟨(some 7), .alloc (.agg [(.v (.pointer none)), (.sl true [])]) 2, none, none⟩])
  (c_least_view_in f_strconv_Itoa f_strings_Builder_WriteString f_strings_Builder_WriteByte f_strings_Builder_String)))
def c_least_finer (f_least_view : FuncId) : AC :=
  (.seq (.reg none [
   ⟨(some 2), .box 3 (.t 0), none, none⟩,
   ⟨(some 4), .mv (.c (.sl true [])), none, none⟩,
   ⟨(some 5), .mv (.c (.v (.int .i64 0))), none, none⟩])
  (.seq (.reg none [
   ⟨(some 12), .mmk, none, none⟩,
   ⟨(some 6), .mv (.t 12), none, none⟩])
  (.seq (.reg none [
   ⟨(some 7), .mv (.c (.sl true [])), none, none⟩])
  (.seq (.seq (.reg none [
   ⟨(some 13), .fieldA 1 (.t 2), none, none⟩,
   ⟨(some 14), .load none (.t 13), none, none⟩,
   ⟨(some 15), .len (.t 14), none, none⟩,
   ⟨(some 16), .mv (.c (.v (.int .i64 0))), none, none⟩])
  (.block 0 (.loop (.seq (.reg none [
     ⟨(some 17), .bin .lss (.t 16) (.t 15), none, none⟩])
    (.seq (.cond (.t 17) .skip (.exit 0))
    (.seq (.block 1 (.seq (.reg none [
      ⟨(some 18), .mv (.t 16), none, none⟩,
      ⟨(some 8), .mv (.t 18), none, none⟩])
     (.seq (.reg none [
      ⟨(some 19), .load (some 3) (.t 2), none, none⟩,
      ⟨(some 20), .mv (.t 1), none, none⟩,
      ⟨(some 21), .mv (.t 8), none, none⟩,
      ⟨(some 22), .mv (.c .junk), none, (some ((.c (.clo f_least_view [] [])), [(.t 19), (.t 20), (.t 21)]))⟩,
      ⟨(some 9), .mv (.t 22), none, none⟩])
     (.seq (.reg none [
      ⟨(some 24), .mv (.t 6), none, none⟩,
      ⟨(some 25), .mv (.t 9), none, none⟩,
      ⟨(some 26), .look .str (.v (.int .i64 0)) true (.t 24) (.t 25), none, none⟩,
      ⟨(some 23), .mv (.t 26), none, none⟩,
      ⟨(some 27), .ext 0 (.t 23), none, none⟩,
      ⟨(some 28), .ext 1 (.t 23), none, none⟩,
      ⟨(some 10), .mv (.t 27), none, none⟩,
      ⟨(some 11), .mv (.t 28), none, none⟩])
     (.seq (.seq (.reg none [
      ⟨(some 29), .mv (.t 11), none, none⟩,
      ⟨(some 30), .un .not (.t 29), none, none⟩])
     (.cond (.t 30) (.seq (.reg none [
       ⟨(some 31), .mv (.t 6), none, none⟩,
       ⟨(some 32), .lenM (.t 31), none, none⟩,
       ⟨(some 10), .mv (.t 32), none, none⟩])
      (.reg none [
       ⟨(some 33), .mv (.t 6), none, none⟩,
       ⟨(some 34), .mv (.t 9), none, none⟩,
       ⟨(some 35), .mv (.t 10), none, none⟩,
       ⟨none, .mset .str (.t 33) (.t 34) (.t 35), none, none⟩])) .skip))
     (.reg none [
      ⟨(some 36), .mv (.t 7), none, none⟩,
      ⟨(some 37), .mv (.t 10), none, none⟩,
      ⟨(some 38), .bslice 1 1 (.v (.int .i64 0)) [(0, (.t 37))], none, none⟩,
      ⟨(some 39), .app 1 8 (.t 36) (.t 38), none, none⟩,
      ⟨(some 7), .mv (.t 39), none, none⟩]))))))
    (.reg none [
     ⟨(some 40), .bin .add (.t 16) (.c (.v (.int .i64 1))), none, none⟩,
     ⟨(some 16), .mv (.t 40), none, none⟩])))))))
  (.seq (.reg none [
   ⟨(some 41), .mv (.t 7), none, none⟩,
   ⟨(some 42), .mv (.t 6), none, none⟩,
   ⟨(some 43), .lenM (.t 42), none, none⟩,
   ⟨(some 4), .mv (.t 41), none, none⟩,
   ⟨(some 5), .mv (.t 43), none, none⟩])
  .ret)))))
def c_least_classes (f_least_coarse f_least_finer : FuncId) : AC :=
  (.seq (.reg none [
   ⟨(some 1), .box 3 (.t 0), none, none⟩,
   ⟨(some 2), .mv (.c (.sl true [])), none, none⟩])
  (.seq (.reg none [
   ⟨(some 7), .load (some 3) (.t 1), none, none⟩,
   ⟨(some 8), .mv (.c .junk), none, (some ((.c (.clo f_least_coarse [] [])), [(.t 7)]))⟩,
   ⟨(some 3), .mv (.t 8), none, none⟩])
  (.seq (.reg none [
   ⟨(some 4), .mv (.c (.v (.int .i64 0))), none, none⟩])
  (.block 0 (.loop (.block 1 (.seq (.reg none [
      ⟨(some 10), .load (some 3) (.t 1), none, none⟩,
      ⟨(some 11), .mv (.t 3), none, none⟩,
      ⟨(some 12), .mv (.c .junk), none, (some ((.c (.clo f_least_finer [] [])), [(.t 10), (.t 11)]))⟩,
      ⟨(some 9), .mv (.t 12), none, none⟩,
      ⟨(some 13), .ext 0 (.t 9), none, none⟩,
      ⟨(some 14), .ext 1 (.t 9), none, none⟩,
      ⟨(some 5), .mv (.t 13), none, none⟩,
      ⟨(some 6), .mv (.t 14), none, none⟩])
     (.seq (.seq (.reg none [
      ⟨(some 15), .mv (.t 6), none, none⟩,
      ⟨(some 16), .mv (.t 4), none, none⟩,
      ⟨(some 17), .bin .eql (.t 15) (.t 16), none, none⟩])
     (.cond (.t 17) (.seq (.reg none [
       ⟨(some 18), .mv (.t 5), none, none⟩,
       ⟨(some 2), .mv (.t 18), none, none⟩])
      .ret) .skip))
     (.reg none [
      ⟨(some 19), .mv (.t 5), none, none⟩,
      ⟨(some 20), .mv (.t 6), none, none⟩,
      ⟨(some 3), .mv (.t 19), none, none⟩,
      ⟨(some 4), .mv (.t 20), none, none⟩])))))))))
def c_least_Classes (f_det_Right f_least_classes : FuncId) : AC :=
  (.seq (.reg none [
   ⟨(some 1), .box 3 (.t 0), none, none⟩,
   ⟨(some 2), .mv (.c (.sl true [])), none, none⟩])
  (.seq (.seq (.reg none [
   ⟨(some 3), .load (some 3) (.t 1), none, none⟩,
   ⟨(some 4), .mv (.c .junk), none, (some ((.c (.clo f_det_Right [] [])), [(.t 3)]))⟩,
   ⟨(some 5), .un .not (.t 4), none, none⟩])
  (.cond (.t 5) (.seq (.reg none [
    ⟨(some 2), .mv (.c (.sl true [])), none, none⟩])
   .ret) .skip))
  (.seq (.reg none [
   ⟨(some 6), .load (some 3) (.t 1), none, none⟩,
   ⟨(some 7), .mv (.c .junk), none, (some ((.c (.clo f_least_classes [] [])), [(.t 6)]))⟩,
   ⟨(some 2), .mv (.t 7), none, none⟩])
  .ret)))
/-! ### coarse -/
abbrev GrS := List Int × Bool
def coI (d : Det) (i : Nat) (s : GrS) : Prop := s.1 = (coarse d).take i
def coA (d : Det) (i : Nat) (s : GrS) : List (Nat × AV) := [(3, vV s.2 1 (s.1.map encI)), (8, encBs d.fin), (9, encI d.fin.length), (10, encI i)]
def coG (i : Nat) (s : GrS) : List (Nat × Option Blk) := [(1, vB s.2 1 (s.1.map encI))]
theorem coarse_body {P : Program} (d : Det) (hl : d.fin.length ≤ 4000) : AWb P 0 c_least_coarse (RetK [2] (FzK (encIs (coarse d)))) (argF [encDet d]) S0 := by
  simp [AWb_seq, Z0m, Z0n, Z0j, Z0k, Z0r, Z0l, Z0p, Z0q, Z0o, Z21, Z20, Z22, Z23, Z3d, Z3e, Z3a, vIdx, Z4x, Z4w, Z4y, vApp, Z4u, Z3u, Z11, Z10, Z0z, Z0x, Z0w, Z0y, Z17, Z16, Z15, Z13, Z12, Z14, Z2c, Z2d, Z2a, Z2n, Z31, Z30, Z07, Z08, Z06, Z01, Z02, Z00, Z04, Z05, Z03, Z1z, Z1y, Z46, Z48, Z47, Z45, Z1n, Z1o, Z1m, Z3n, Z3k, Z3m, Z3l, Z3o, Z1l, Z29, Z32, Z3x, Z1i, Z1j, Z1k, Z3v, Z3w, Z1g, Z28, Z1h, Z3i, Z3f, Z3h, Z3g, Z3j, Z41, Z40, Z0t, Z0u, Z0v, Z0s, Z1f, Z4c, Z4b, Z4d, Z4a, Z49, ex, Z43, Z42, ev_t, ev_c, Z27, Z26, Z4e, Z4f, Z2m, Z2l, Z2f, Z2j, Z2k, Z2g, Z2h, Z2i, putc, exBslice, lfill, exField, exIdxV, exIdxP, exBox, exAlloc, Z3b, Z3c, exStore, exFieldA, Z34, Z33, Z39, Z38, exPick, exUn, exBeq, exMM, exSeq, seqGo, exExt, binV, intOp, subc, Z4s, Z4r, Z4p, Z4q, Z4n, Z4l, Z4m, Z4o, Z4i, Z4j, Z4g, Z4t, S0, encI, encB, Z4k, Z2e, Z25, Z4h, Z2b, Z24, Z36, Z37, Z35, Z3s, Z3t, Z3r, Z3p, Z3q, idxT_Bs, c_least_coarse]
  refine AWb_for d.fin.length (coI d) (coA d) 10 coG ([], false) rfl ?_ ?_
  · refine Abs.of [] [] (by omega) ⟨by simp, by simp⟩ ?_ ?_
    · simp [RenL_snoc, RenL.cl, RenV.cl, Z2r, Z2o, Z2s, Z2t, Z2p, Z2v, Z2u, Z2q, Z2w, Z2x, Z1d, Z1c, Z1b, Z19, Z18, Z1a, Z1e, Z52, Z4v, Z4z, Z3y, Z51, Z50, Z3z, Z1p, Z1q, Z1x, Z1v, Z1w, Z1u, Z1t, Z1s, Z1r, Z44, Z43, Z42, Z4e, Z4f, Z22, Z23, Z3d, Z3e, Z27, Z26, vV_t, vV_f, vB_t, vB_f, encI, encB, coG]
    · simp [RenL_snoc, RenL.cl, RenV.cl, Z2r, Z2o, Z2s, Z2t, Z2p, Z2v, Z2u, Z2q, Z2w, Z2x, Z1d, Z1c, Z1b, Z19, Z18, Z1a, Z1e, Z52, Z4v, Z4z, Z3y, Z51, Z50, Z3z, Z1p, Z1q, Z1x, Z1v, Z1w, Z1u, Z1t, Z1s, Z1r, Z44, Z43, Z42, Z4e, Z4f, Z22, Z23, Z3d, Z3e, Z27, Z26, vV_t, vV_f, vB_t, vB_f, encI, encB, coA]
  · rintro i ⟨xs, o⟩ hi hx
    simp only [coI] at hx
    have hcl : (coarse d).length = d.fin.length := by simp [coarse]
    have hxl : xs.length = i := by rw [hx]; simp [hcl]; omega
    by_cases hlt : i < d.fin.length
    · have hok : appOk 8 xs.length 1 := by unfold appOk; omega
      have hn : (coarse d).take (i + 1) = xs ++ [(coarse d)[i]'(by omega)] := by rw [List.take_succ_eq_append_getElem (by omega), ← hx]
      have hg : (coarse d)[i]'(by omega) = if d.fin[i] = true then 1 else 0 := by simp [coarse]
      have hgd : d.fin.getD i false = d.fin[i] := by rw [List.getD_eq_getElem?_getD, List.getElem?_eq_getElem hlt]; rfl
      rw [hg] at hn
      cases hb : d.fin[i] with
      | true =>
        simp only [hb, if_true] at hn
        simp [AWb_seq, Z0m, Z0n, Z0j, Z0k, Z0r, Z0l, Z0p, Z0q, Z0o, Z21, Z20, Z22, Z23, Z3d, Z3e, Z3a, vIdx, Z4x, Z4w, Z4y, vApp, Z4u, Z3u, Z11, Z10, Z0z, Z0x, Z0w, Z0y, Z17, Z16, Z15, Z13, Z12, Z14, Z2c, Z2d, Z2a, Z2n, Z31, Z30, Z07, Z08, Z06, Z01, Z02, Z00, Z04, Z05, Z03, Z1z, Z1y, Z46, Z48, Z47, Z45, Z1n, Z1o, Z1m, Z3n, Z3k, Z3m, Z3l, Z3o, Z1l, Z29, Z32, Z3x, Z1i, Z1j, Z1k, Z3v, Z3w, Z1g, Z28, Z1h, Z3i, Z3f, Z3h, Z3g, Z3j, Z41, Z40, Z0t, Z0u, Z0v, Z0s, Z1f, Z4c, Z4b, Z4d, Z4a, Z49, ex, Z43, Z42, ev_t, ev_c, Z27, Z26, Z4e, Z4f, Z2m, Z2l, Z2f, Z2j, Z2k, Z2g, Z2h, Z2i, putc, exBslice, lfill, exField, exIdxV, exIdxP, exBox, exAlloc, Z3b, Z3c, exStore, exFieldA, Z34, Z33, Z39, Z38, exPick, exUn, exBeq, exMM, exSeq, seqGo, exExt, binV, intOp, subc, Z4s, Z4r, Z4p, Z4q, Z4n, Z4l, Z4m, Z4o, Z4i, Z4j, Z4g, Z4t, S0, encI, encB, Z4k, Z2e, Z25, Z4h, Z2b, Z24, Z36, Z37, Z35, Z3s, Z3t, Z3r, Z3p, Z3q, idxT_Bs, coA, coG, hlt, hgd, hb, hok]
        rw [wrap_in _ (by omega)]
        refine ⟨hlt, (xs ++ [1], true), hn.symm, Abs.of [(1, 20)] [] (by omega) ⟨by simp, by simp⟩ ?_ ?_⟩
        · simp [RenL_snoc, RenL.cl, RenV.cl, Z2r, Z2o, Z2s, Z2t, Z2p, Z2v, Z2u, Z2q, Z2w, Z2x, Z1d, Z1c, Z1b, Z19, Z18, Z1a, Z1e, Z52, Z4v, Z4z, Z3y, Z51, Z50, Z3z, Z1p, Z1q, Z1x, Z1v, Z1w, Z1u, Z1t, Z1s, Z1r, Z44, Z43, Z42, Z4e, Z4f, Z22, Z23, Z3d, Z3e, Z27, Z26, vV_t, vV_f, vB_t, vB_f, encI, encB, coG]
        · simp [RenL_snoc, RenL.cl, RenV.cl, Z2r, Z2o, Z2s, Z2t, Z2p, Z2v, Z2u, Z2q, Z2w, Z2x, Z1d, Z1c, Z1b, Z19, Z18, Z1a, Z1e, Z52, Z4v, Z4z, Z3y, Z51, Z50, Z3z, Z1p, Z1q, Z1x, Z1v, Z1w, Z1u, Z1t, Z1s, Z1r, Z44, Z43, Z42, Z4e, Z4f, Z22, Z23, Z3d, Z3e, Z27, Z26, vV_t, vV_f, vB_t, vB_f, encI, encB, coA]
      | false =>
        simp only [hb, Bool.false_eq_true, if_false] at hn
        simp [AWb_seq, Z0m, Z0n, Z0j, Z0k, Z0r, Z0l, Z0p, Z0q, Z0o, Z21, Z20, Z22, Z23, Z3d, Z3e, Z3a, vIdx, Z4x, Z4w, Z4y, vApp, Z4u, Z3u, Z11, Z10, Z0z, Z0x, Z0w, Z0y, Z17, Z16, Z15, Z13, Z12, Z14, Z2c, Z2d, Z2a, Z2n, Z31, Z30, Z07, Z08, Z06, Z01, Z02, Z00, Z04, Z05, Z03, Z1z, Z1y, Z46, Z48, Z47, Z45, Z1n, Z1o, Z1m, Z3n, Z3k, Z3m, Z3l, Z3o, Z1l, Z29, Z32, Z3x, Z1i, Z1j, Z1k, Z3v, Z3w, Z1g, Z28, Z1h, Z3i, Z3f, Z3h, Z3g, Z3j, Z41, Z40, Z0t, Z0u, Z0v, Z0s, Z1f, Z4c, Z4b, Z4d, Z4a, Z49, ex, Z43, Z42, ev_t, ev_c, Z27, Z26, Z4e, Z4f, Z2m, Z2l, Z2f, Z2j, Z2k, Z2g, Z2h, Z2i, putc, exBslice, lfill, exField, exIdxV, exIdxP, exBox, exAlloc, Z3b, Z3c, exStore, exFieldA, Z34, Z33, Z39, Z38, exPick, exUn, exBeq, exMM, exSeq, seqGo, exExt, binV, intOp, subc, Z4s, Z4r, Z4p, Z4q, Z4n, Z4l, Z4m, Z4o, Z4i, Z4j, Z4g, Z4t, S0, encI, encB, Z4k, Z2e, Z25, Z4h, Z2b, Z24, Z36, Z37, Z35, Z3s, Z3t, Z3r, Z3p, Z3q, idxT_Bs, coA, coG, hlt, hgd, hb, hok]
        rw [wrap_in _ (by omega)]
        refine ⟨hlt, (xs ++ [0], true), hn.symm, Abs.of [(1, 19)] [] (by omega) ⟨by simp, by simp⟩ ?_ ?_⟩
        · simp [RenL_snoc, RenL.cl, RenV.cl, Z2r, Z2o, Z2s, Z2t, Z2p, Z2v, Z2u, Z2q, Z2w, Z2x, Z1d, Z1c, Z1b, Z19, Z18, Z1a, Z1e, Z52, Z4v, Z4z, Z3y, Z51, Z50, Z3z, Z1p, Z1q, Z1x, Z1v, Z1w, Z1u, Z1t, Z1s, Z1r, Z44, Z43, Z42, Z4e, Z4f, Z22, Z23, Z3d, Z3e, Z27, Z26, vV_t, vV_f, vB_t, vB_f, encI, encB, coG]
        · simp [RenL_snoc, RenL.cl, RenV.cl, Z2r, Z2o, Z2s, Z2t, Z2p, Z2v, Z2u, Z2q, Z2w, Z2x, Z1d, Z1c, Z1b, Z19, Z18, Z1a, Z1e, Z52, Z4v, Z4z, Z3y, Z51, Z50, Z3z, Z1p, Z1q, Z1x, Z1v, Z1w, Z1u, Z1t, Z1s, Z1r, Z44, Z43, Z42, Z4e, Z4f, Z22, Z23, Z3d, Z3e, Z27, Z26, vV_t, vV_f, vB_t, vB_f, encI, encB, coA]
    · have hie : i = d.fin.length := by omega
      have ht : xs = coarse d := by rw [hx]; exact List.take_of_length_le (by omega)
      subst ht
      simp [AWb_seq, Z0m, Z0n, Z0j, Z0k, Z0r, Z0l, Z0p, Z0q, Z0o, Z21, Z20, Z22, Z23, Z3d, Z3e, Z3a, vIdx, Z4x, Z4w, Z4y, vApp, Z4u, Z3u, Z11, Z10, Z0z, Z0x, Z0w, Z0y, Z17, Z16, Z15, Z13, Z12, Z14, Z2c, Z2d, Z2a, Z2n, Z31, Z30, Z07, Z08, Z06, Z01, Z02, Z00, Z04, Z05, Z03, Z1z, Z1y, Z46, Z48, Z47, Z45, Z1n, Z1o, Z1m, Z3n, Z3k, Z3m, Z3l, Z3o, Z1l, Z29, Z32, Z3x, Z1i, Z1j, Z1k, Z3v, Z3w, Z1g, Z28, Z1h, Z3i, Z3f, Z3h, Z3g, Z3j, Z41, Z40, Z0t, Z0u, Z0v, Z0s, Z1f, Z4c, Z4b, Z4d, Z4a, Z49, ex, Z43, Z42, ev_t, ev_c, Z27, Z26, Z4e, Z4f, Z2m, Z2l, Z2f, Z2j, Z2k, Z2g, Z2h, Z2i, putc, exBslice, lfill, exField, exIdxV, exIdxP, exBox, exAlloc, Z3b, Z3c, exStore, exFieldA, Z34, Z33, Z39, Z38, exPick, exUn, exBeq, exMM, exSeq, seqGo, exExt, binV, intOp, subc, Z4s, Z4r, Z4p, Z4q, Z4n, Z4l, Z4m, Z4o, Z4i, Z4j, Z4g, Z4t, S0, encI, encB, Z4k, Z2e, Z25, Z4h, Z2b, Z24, Z36, Z37, Z35, Z3s, Z3t, Z3r, Z3p, Z3q, idxT_Bs, coA, coG, hlt, hie]
      refine vV_fz ?_ (Z19 _)
      simp [RenL_snoc, RenL.cl, RenV.cl, Z2r, Z2o, Z2s, Z2t, Z2p, Z2v, Z2u, Z2q, Z2w, Z2x, Z1d, Z1c, Z1b, Z19, Z18, Z1a, Z1e, Z52, Z4v, Z4z, Z3y, Z51, Z50, Z3z, Z1p, Z1q, Z1x, Z1v, Z1w, Z1u, Z1t, Z1s, Z1r, Z44, Z43, Z42, Z4e, Z4f, Z22, Z23, Z3d, Z3e, Z27, Z26, vV_t, vV_f, vB_t, vB_f, encI, encB]
/-! ### view -/
def textV : List Int → List UInt8
  | [] => []
  | k :: ks => Lib.itoa k ++ ks.flatMap fun n => 44 :: Lib.itoa n
def encV (l : List Int) : AV := strAV (textV l)
def textC (l : List Int) : List UInt8 := l.flatMap fun n => Lib.itoa n ++ [44]
theorem textV_C (ks : List Int) : ∀ k, textV (k :: ks) ++ [44] = textC (k :: ks) := by
  induction ks with
  | nil => intro k; simp [textV, textC]
  | cons j js ih =>
    intro k
    have := ih j
    simp only [textV, textC, List.flatMap_cons, List.append_assoc, List.cons_append] at this ⊢
    rw [this]; simp
theorem decDigits_ne (n : Nat) : ∀ b ∈ Lib.decDigits n, b ≠ 44 := by
  induction n using Nat.strongRecOn with
  | _ n ih =>
    rw [Lib.decDigits]
    split
    · rename_i h
      intro b hb e
      simp only [List.mem_cons, List.not_mem_nil, or_false] at hb
      have := dig_toNat h
      rw [← hb, e] at this
      have h32 : (44 : UInt8).toNat = 44 := rfl
      omega
    · rename_i h
      have h2 := ih (n / 10) (by omega)
      have hd : n % 10 < 10 := Nat.mod_lt _ (by omega)
      intro b hb e
      rcases List.mem_append.mp hb with hb | hb
      · exact h2 b hb e
      · simp only [List.mem_cons, List.not_mem_nil, or_false] at hb
        have := dig_toNat hd
        rw [← hb, e] at this
        have h32 : (44 : UInt8).toNat = 44 := rfl
        omega
theorem textC_cons (n : Int) (l : List Int) : textC (n :: l) = Lib.itoa n ++ 44 :: textC l := by simp [textC]
theorem textC_inj : ∀ {l m : List Int}, NonNeg l → NonNeg m → textC l = textC m → l = m
  | [], [], _, _, _ => rfl
  | [], n :: m, _, _, h => by rw [textC_cons] at h; simp [textC] at h
  | n :: l, [], _, _, h => by rw [textC_cons] at h; simp [textC] at h
  | n :: l, k :: m, hl, hm, h => by
    have hn := hl n (by simp)
    have hk := hm k (by simp)
    rw [textC_cons, textC_cons, itoa_of hn, itoa_of hk] at h
    obtain ⟨h1, h2⟩ := cut_eq (decDigits_ne _) (decDigits_ne _) h
    have := congrArg valD h1
    rw [(decDigits_val _).1, (decDigits_val _).1] at this
    rw [textC_inj (fun z hz => hl z (by simp [hz])) (fun z hz => hm z (by simp [hz])) h2]
    congr 1; omega
def VGood (l : List Int) : Prop := l ≠ [] ∧ ∀ n ∈ l, 0 ≤ n ∧ n < 10000
theorem textV_inj {l m : List Int} (hl : VGood l) (hm : VGood m) (h : textV l = textV m) : l = m := by
  obtain ⟨k, ks, rfl⟩ := List.exists_cons_of_ne_nil hl.1
  obtain ⟨j, js, rfl⟩ := List.exists_cons_of_ne_nil hm.1
  refine textC_inj (fun n hn => (hl.2 n hn).1) (fun n hn => (hm.2 n hn).1) ?_
  rw [← textV_C, ← textV_C, h]
theorem keyV : KeyOk .str VGood encV := by
  refine ⟨fun x => rfl, fun x y hx hy => ?_⟩
  have : keyEq (encV x) (encV y) = ((⟨(textV x).toArray⟩ : ByteArray) == ⟨(textV y).toArray⟩) := rfl
  rw [this, ba_beq]
  by_cases h : x = y
  · subst h; simp
  · simp only [h, decide_false, beq_eq_false_iff_ne, ne_eq]
    intro e
    refine h (textV_inj hx hy ?_)
    simpa using e
theorem itoa_le {n : Int} (h : 0 ≤ n ∧ n < 10000) : (Lib.itoa n).length ≤ 21 := Lib.itoa_length_le n (by omega) (by omega)
theorem textV_len : ∀ {l : List Int}, (∀ n ∈ l, 0 ≤ n ∧ n < 10000) → (textC l).length ≤ 22 * l.length
  | [], _ => by simp [textC]
  | k :: ks, h => by
    have h1 := itoa_le (h k (by simp))
    have h2 := textV_len (l := ks) (fun n hn => h n (by simp [hn]))
    rw [textC_cons, List.length_append, List.length_cons, List.length_cons]; omega
theorem textV_snoc (k : Int) (ks : List Int) (n : Int) : textV (k :: (ks ++ [n])) = textV (k :: ks) ++ 44 :: Lib.itoa n := by simp [textV]
def vwA (d : Det) (c : List Int) (s : Nat) : List (Nat × AV) := [(1, encIs c), (2, encI s), (3, .eptr (encDet d) 0)]
structure VwI (T e B : Nat) (w0 : World) (c row : List Int) (k0 : Int) (m : Nat) (a : AF) (w : World) (j : Nat) : Prop where
  hj : j ≤ row.length
  hm : m = row.length - j
  e1 : a 1 = encIs c
  e7 : a 7 = .ptr 0 0 0
  e20 : a 20 = encIs row
  e21 : a 21 = encI row.length
  e22 : a 22 = encI j
  bl : Bld T e B B w0 (textV (k0 :: (row.take j).map fun t => c.getD t.toNat 0)) w
def VwInv (T e B : Nat) (w0 : World) (H : Nat → Option (Array Value)) (c row : List Int) (k0 : Int) (m : Nat) (a : AF) (w : World) : Prop := HOk H w ∧ ∃ j, VwI T e B w0 c row k0 m a w j
def Goo (n : Int) : Prop := 0 ≤ n ∧ n < 10000
theorem view_loop_ok {P : Program} {fi fw fb fs : FuncId} {T e : TypeId} (k : BldK P fw fb fs T e) (hi : ItK P fi Goo) {c row : List Int} {k0 : Int} (hk0 : Goo k0) (hc : ∀ n ∈ c, Goo n) (hr : ∀ t ∈ row, 0 ≤ t ∧ t < c.length) (hlen : row.length ≤ 4000)
    {E : Env} {B : Nat} {w0 : World} (hE : BE E B B) (hGm : Gam P E.H) {Q : Exit → AF → World → Prop} (hQ : ∀ a w, VwI T e B w0 c row k0 0 a w row.length → HOk E.H w → Q (.exit 0) a w) {a : AF} {w : World} (h : VwI T e B w0 c row k0 row.length a w 0) (hH : HOk E.H w) :
    AWW P E (c_least_view_loop fi fw fb) Q a w := by
  unfold c_least_view_loop
  unfold AWW
  refine ⟨VwInv T e B w0 E.H c row k0, ⟨row.length, hH, 0, h⟩, ?_⟩
  rintro m a w ⟨hH, j, hI⟩
  by_cases hj : j < row.length
  · have h1 : (j : Int) < row.length := by omega
    have hget : (row.map encI)[j]? = some (encI row[j]) := by simp [hj]
    have hw : IntKind.i64.wrap ((j : Int) + 1) = j + 1 := wrap_in _ (by omega)
    obtain ⟨h2, h3⟩ := hr _ (List.getElem_mem hj)
    have hcl : row[j].toNat < c.length := by omega
    have hgc : (c.map encI)[row[j].toNat]? = some (encI c[row[j].toNat]) := by simp [hcl]
    have hgo := hc _ (List.getElem_mem hcl)
    have ht : (row.take (j + 1)).map (fun t => c.getD t.toNat 0) = (row.take j).map (fun t => c.getD t.toNat 0) ++ [c[row[j].toNat]] := by
      rw [List.take_succ_eq_append_getElem hj, List.map_append]
      simp [List.getElem?_eq_getElem hcl]
    have hle : (textV (k0 :: (row.take (j + 1)).map fun t => c.getD t.toNat 0)).length ≤ 22 * 4001 := by
      have h4 := textV_len (l := k0 :: (row.take (j + 1)).map fun t => c.getD t.toNat 0) (fun n hn => by
        simp only [List.mem_cons, List.mem_map] at hn
        rcases hn with rfl | ⟨t, ht, rfl⟩
        · exact hk0
        · obtain ⟨h5, h6⟩ := hr t (List.mem_of_mem_take ht)
          have : t.toNat < c.length := by omega
          rw [List.getD_eq_getElem?_getD, List.getElem?_eq_getElem this]
          exact hc _ (List.getElem_mem this))
      rw [← textV_C] at h4
      simp only [List.length_append, List.length_cons, List.length_map, List.length_take, List.length_nil] at h4
      omega
    rw [ht, textV_snoc] at hle
    simp only [List.length_append, List.length_cons] at hle
    simp [Z0h, Z0c, Z0d, Z09, Z0a, Z0i, Z0b, Z0f, Z0g, Z2z, Z2y, Z07, Z08, Z06, Z01, Z02, Z00, Z04, Z05, Z03, Z1z, Z1y, Z46, Z48, Z47, Z45, Z1n, Z1o, Z1m, Z3n, Z3k, Z3m, Z3l, Z3o, Z1l, Z29, Z32, Z3x, Z1i, Z1j, Z1k, Z3v, Z3w, Z1g, Z28, Z1h, Z3i, Z3f, Z3h, Z3g, Z3j, Z41, Z40, Z0t, Z0u, Z0v, Z0s, Z1f, Z4c, Z4b, Z4d, Z4a, Z49, ex, Z43, Z42, ev_t, ev_c, Z27, Z26, Z4e, Z4f, Z2m, Z2l, Z2f, Z2j, Z2k, Z2g, Z2h, Z2i, putc, exBslice, lfill, exField, exIdxV, exIdxP, exBox, exAlloc, exLoad, exStore, exFieldA, exIdxA, exLen, exPick, exUn, exBeq, exMM, exSeq, seqGo, exExt, binV, intOp, subc, AV.solid, S0, encI, encB, AWW, WG, WThen, WBlock, pureA, Eff.run_val, hI.e1, hI.e7, hI.e20, hI.e21, hI.e22, encIs, h1, hget, h2, hgc]
    refine CallW.byte k hE hI.bl hH (by omega) (fun w1 b1 hH1 => ?_) (c := 44) rfl
    try simp [Z0h, Z0c, Z0d, Z09, Z0a, Z0i, Z0b, Z0f, Z0g, Z2z, Z2y, Z07, Z08, Z06, Z01, Z02, Z00, Z04, Z05, Z03, Z1z, Z1y, Z46, Z48, Z47, Z45, Z1n, Z1o, Z1m, Z3n, Z3k, Z3m, Z3l, Z3o, Z1l, Z29, Z32, Z3x, Z1i, Z1j, Z1k, Z3v, Z3w, Z1g, Z28, Z1h, Z3i, Z3f, Z3h, Z3g, Z3j, Z41, Z40, Z0t, Z0u, Z0v, Z0s, Z1f, Z4c, Z4b, Z4d, Z4a, Z49, ex, Z43, Z42, ev_t, ev_c, Z27, Z26, Z4e, Z4f, Z2m, Z2l, Z2f, Z2j, Z2k, Z2g, Z2h, Z2i, putc, exBslice, lfill, exField, exIdxV, exIdxP, exBox, exAlloc, exLoad, exStore, exFieldA, exIdxA, exLen, exPick, exUn, exBeq, exMM, exSeq, seqGo, exExt, binV, intOp, subc, AV.solid, S0, encI, encB, AWW, WG, WThen, WBlock, pureA, Eff.run_val, hI.e1, hI.e7, hI.e20, hI.e21, hI.e22, encIs, h1, hget, h2, hgc]
    refine CallW.itoa hi hE b1 hgo hGm hH1 fun w9 b9 hH9 => ?_
    refine CallW.str k hE b9 hH9 (by simp only [List.length_append, List.length_cons, List.length_nil]; omega) fun w2 b2 hH2 => ?_
    refine ⟨row.length - (j + 1), by have := hI.hm; omega, hH2, j + 1, ⟨by omega, rfl, ?_, ?_, ?_, ?_, ?_, ?_⟩⟩
    · simp [AF.put, updF, hI.e1]
    · simp [AF.put, updF, hI.e7]
    · simp [AF.put, updF, hI.e20]
    · simp [AF.put, updF, hI.e21]
    · simp [AF.put, updF, hw, encI]
    · rw [ht, textV_snoc]
      rw [List.append_assoc] at b2
      exact b2
  · have hj2 : j = row.length := by have := hI.hj; omega
    subst hj2
    have h1 : ¬ ((row.length : Int) < row.length) := by omega
    simp [Z0h, Z0c, Z0d, Z09, Z0a, Z0i, Z0b, Z0f, Z0g, Z2z, Z2y, Z07, Z08, Z06, Z01, Z02, Z00, Z04, Z05, Z03, Z1z, Z1y, Z46, Z48, Z47, Z45, Z1n, Z1o, Z1m, Z3n, Z3k, Z3m, Z3l, Z3o, Z1l, Z29, Z32, Z3x, Z1i, Z1j, Z1k, Z3v, Z3w, Z1g, Z28, Z1h, Z3i, Z3f, Z3h, Z3g, Z3j, Z41, Z40, Z0t, Z0u, Z0v, Z0s, Z1f, Z4c, Z4b, Z4d, Z4a, Z49, ex, Z43, Z42, ev_t, ev_c, Z27, Z26, Z4e, Z4f, Z2m, Z2l, Z2f, Z2j, Z2k, Z2g, Z2h, Z2i, putc, exBslice, lfill, exField, exIdxV, exIdxP, exBox, exAlloc, exLoad, exStore, exFieldA, exIdxA, exLen, exPick, exUn, exBeq, exMM, exSeq, seqGo, exExt, binV, intOp, subc, AV.solid, S0, encI, encB, AWW, WG, WThen, WBlock, pureA, Eff.run_val, hI.e1, hI.e7, hI.e20, hI.e21, hI.e22, encIs, h1]
    refine hQ _ _ ⟨Nat.le_refl _, by omega, ?_, ?_, ?_, ?_, ?_, hI.bl⟩ hH
    · simp [AF.put, updF, hI.e1]
    · simp [AF.put, updF, hI.e7]
    · simp [AF.put, updF, hI.e20]
    · simp [AF.put, updF, hI.e21]
    · simp [AF.put, updF, hI.e22]
theorem view_body {P : Program} (hm : P.follows .mixedOrders = true) {f fi fw fb fs : FuncId} {T e : TypeId} (h : Is P f (c_least_view fi fw fb fs) [6] 3) (hT : AllocIs P f T) (k : BldK P fw fb fs T e) (hi : ItK P fi Goo) {d : Det} (R : RightD d) {c : List Int} (hcl : c.length = d.next.length)
    (hc : ∀ n ∈ c, Goo n) {s : Nat} (hs : s < d.next.length) : PureC P f [encDet d, encIs c, encI s] (encV (viewK d c s)) := by
  obtain ⟨fn, co, hf, hnm, hb, hcm, hr, hn⟩ := h
  have hT' : allocT co = some T := by
    unfold AllocIs at hT
    rw [hf] at hT
    simpa [hb] using hT
  refine PureC.of_bld2 (T := T) (e := e) (args := [encDet d, encIs c, encI s]) (A := vwA d c s) hm hf hnm hb hcm hT' hr hn rfl ?_ (fun E B w w0 hE hGm hH hB => ?_)
  · simp [AWb_seq, Z0m, Z0n, Z0j, Z0k, Z0r, Z0l, Z0p, Z0q, Z0o, Z21, Z20, Z22, Z23, Z3d, Z3e, Z3a, vIdx, Z4x, Z4w, Z4y, vApp, Z4u, Z3u, Z11, Z10, Z0z, Z0x, Z0w, Z0y, Z17, Z16, Z15, Z13, Z12, Z14, Z2c, Z2d, Z2a, Z2n, Z31, Z30, Z07, Z08, Z06, Z01, Z02, Z00, Z04, Z05, Z03, Z1z, Z1y, Z46, Z48, Z47, Z45, Z1n, Z1o, Z1m, Z3n, Z3k, Z3m, Z3l, Z3o, Z1l, Z29, Z32, Z3x, Z1i, Z1j, Z1k, Z3v, Z3w, Z1g, Z28, Z1h, Z3i, Z3f, Z3h, Z3g, Z3j, Z41, Z40, Z0t, Z0u, Z0v, Z0s, Z1f, Z4c, Z4b, Z4d, Z4a, Z49, ex, Z43, Z42, ev_t, ev_c, Z27, Z26, Z4e, Z4f, Z2m, Z2l, Z2f, Z2j, Z2k, Z2g, Z2h, Z2i, putc, exBslice, lfill, exField, exIdxV, exIdxP, exBox, exAlloc, Z3b, Z3c, exStore, exFieldA, Z34, Z33, Z39, Z38, exPick, exUn, exBeq, exMM, exSeq, seqGo, exExt, binV, intOp, subc, Z4s, Z4r, Z4p, Z4q, Z4n, Z4l, Z4m, Z4o, Z4i, Z4j, Z4g, Z4t, S0, encI, encB, Z4k, Z2e, Z25, Z4h, Z2b, Z24, Z36, Z37, Z35, Z3s, Z3t, Z3r, Z3p, Z3q, idxT_Bs]
    refine Abs.of [] [0] (by omega) ⟨by simp, by simp⟩ ?_ ?_
    · simp [RenL_snoc, RenL.cl, RenV.cl, Z2r, Z2o, Z2s, Z2t, Z2p, Z2v, Z2u, Z2q, Z2w, Z2x, Z1d, Z1c, Z1b, Z19, Z18, Z1a, Z1e, Z52, Z4v, Z4z, Z3y, Z51, Z50, Z3z, Z1p, Z1q, Z1x, Z1v, Z1w, Z1u, Z1t, Z1s, Z1r, Z44, Z43, Z42, Z4e, Z4f, Z22, Z23, Z3d, Z3e, Z27, Z26, vV_t, vV_f, vB_t, vB_f, encI, encB]
    · simp [RenL_snoc, RenL.cl, RenV.cl, Z2r, Z2o, Z2s, Z2t, Z2p, Z2v, Z2u, Z2q, Z2w, Z2x, Z1d, Z1c, Z1b, Z19, Z18, Z1a, Z1e, Z52, Z4v, Z4z, Z3y, Z51, Z50, Z3z, Z1p, Z1q, Z1x, Z1v, Z1w, Z1u, Z1t, Z1s, Z1r, Z44, Z43, Z42, Z4e, Z4f, Z22, Z23, Z3d, Z3e, Z27, Z26, vV_t, vV_f, vB_t, vB_f, encI, encB, vwA]
      exact .fz _ _ (.ptr 0 0 0 3 [encDet d] (encDet d) (by simp [only, Z4e]) (by simp) (.closed _ (closed_Det d)))
  · unfold c_least_view_in
    have hgs : Goo (c.getD s 0) := by
      rw [List.getD_eq_getElem?_getD, List.getElem?_eq_getElem (by omega)]
      exact hc _ (List.getElem_mem _)
    have hsc : (c.map encI)[s]? = some (encI (c.getD s 0)) := by
      rw [List.getD_eq_getElem?_getD, List.getElem?_map, List.getElem?_eq_getElem (show s < c.length by omega)]; rfl
    have hrow : (d.next.map encIs)[s]? = some (encIs (d.next.getD s [])) := by
      rw [List.getD_eq_getElem?_getD, List.getElem?_map, List.getElem?_eq_getElem hs]; rfl
    have ed : (encDet d).cells = [encI d.signs, encIss d.next, encBs d.fin] := rfl
    have es : (encDet d).solid = true := rfl
    have hrl : (d.next.getD s []).length ≤ 4000 := by
      have := R.row s hs
      have := R.s2
      rw [List.getD_eq_getElem?_getD, List.getElem?_eq_getElem hs, Option.getD_some]; omega
    have hra : ∀ t ∈ d.next.getD s [], 0 ≤ t ∧ t < c.length := by
      intro t ht
      rw [List.getD_eq_getElem?_getD, List.getElem?_eq_getElem hs, Option.getD_some] at ht
      obtain ⟨j, hj, rfl⟩ := List.getElem_of_mem ht
      rw [hcl]; exact R.at_ s hs j hj
    have hz : textV [c.getD s 0] = [] ++ Lib.itoa (c.getD s 0) := by simp [textV]
    have hvk : textV (viewK d c s) = textV (c.getD s 0 :: ((d.next.getD s []).take (d.next.getD s []).length).map fun t => c.getD t.toNat 0) := by rw [List.take_length]; rfl
    generalize hrw : d.next.getD s [] = row at *
    generalize hk0 : c.getD s 0 = k0 at *
    simp [Z0h, Z0c, Z0d, Z09, Z0a, Z0i, Z0b, Z0f, Z0g, Z2z, Z2y, Z07, Z08, Z06, Z01, Z02, Z00, Z04, Z05, Z03, Z1z, Z1y, Z46, Z48, Z47, Z45, Z1n, Z1o, Z1m, Z3n, Z3k, Z3m, Z3l, Z3o, Z1l, Z29, Z32, Z3x, Z1i, Z1j, Z1k, Z3v, Z3w, Z1g, Z28, Z1h, Z3i, Z3f, Z3h, Z3g, Z3j, Z41, Z40, Z0t, Z0u, Z0v, Z0s, Z1f, Z4c, Z4b, Z4d, Z4a, Z49, ex, Z43, Z42, ev_t, ev_c, Z27, Z26, Z4e, Z4f, Z2m, Z2l, Z2f, Z2j, Z2k, Z2g, Z2h, Z2i, putc, exBslice, lfill, exField, exIdxV, exIdxP, exBox, exAlloc, exLoad, exStore, exFieldA, exIdxA, exLen, exPick, exUn, exBeq, exMM, exSeq, seqGo, exExt, binV, intOp, subc, AV.solid, S0, encI, encB, AWW, WG, WThen, WBlock, pureA, Eff.run_val, vwA, Z22, Z23, encIs, hsc]
    refine CallW.itoa hi hE hB hgs hGm hH fun w9 b9 hH9 => ?_
    try simp [Z0h, Z0c, Z0d, Z09, Z0a, Z0i, Z0b, Z0f, Z0g, Z2z, Z2y, Z07, Z08, Z06, Z01, Z02, Z00, Z04, Z05, Z03, Z1z, Z1y, Z46, Z48, Z47, Z45, Z1n, Z1o, Z1m, Z3n, Z3k, Z3m, Z3l, Z3o, Z1l, Z29, Z32, Z3x, Z1i, Z1j, Z1k, Z3v, Z3w, Z1g, Z28, Z1h, Z3i, Z3f, Z3h, Z3g, Z3j, Z41, Z40, Z0t, Z0u, Z0v, Z0s, Z1f, Z4c, Z4b, Z4d, Z4a, Z49, ex, Z43, Z42, ev_t, ev_c, Z27, Z26, Z4e, Z4f, Z2m, Z2l, Z2f, Z2j, Z2k, Z2g, Z2h, Z2i, putc, exBslice, lfill, exField, exIdxV, exIdxP, exBox, exAlloc, exLoad, exStore, exFieldA, exIdxA, exLen, exPick, exUn, exBeq, exMM, exSeq, seqGo, exExt, binV, intOp, subc, AV.solid, S0, encI, encB, AWW, WG, WThen, WBlock, pureA, Eff.run_val, vwA, Z22, Z23, encIs, hsc]
    refine CallW.str k hE b9 hH9 (by have := itoa_le hgs; simp only [List.length_nil]; omega) fun w2 b2 hH2 => ?_
    rw [← hz] at b2
    try simp [Z0h, Z0c, Z0d, Z09, Z0a, Z0i, Z0b, Z0f, Z0g, Z2z, Z2y, Z07, Z08, Z06, Z01, Z02, Z00, Z04, Z05, Z03, Z1z, Z1y, Z46, Z48, Z47, Z45, Z1n, Z1o, Z1m, Z3n, Z3k, Z3m, Z3l, Z3o, Z1l, Z29, Z32, Z3x, Z1i, Z1j, Z1k, Z3v, Z3w, Z1g, Z28, Z1h, Z3i, Z3f, Z3h, Z3g, Z3j, Z41, Z40, Z0t, Z0u, Z0v, Z0s, Z1f, Z4c, Z4b, Z4d, Z4a, Z49, ex, Z43, Z42, ev_t, ev_c, Z27, Z26, Z4e, Z4f, Z2m, Z2l, Z2f, Z2j, Z2k, Z2g, Z2h, Z2i, putc, exBslice, lfill, exField, exIdxV, exIdxP, exBox, exAlloc, exLoad, exStore, exFieldA, exIdxA, exLen, exPick, exUn, exBeq, exMM, exSeq, seqGo, exExt, binV, intOp, subc, AV.solid, S0, encI, encB, AWW, WG, WThen, WBlock, pureA, Eff.run_val, vwA, Z22, Z23, encIs, encIss, hsc, ed, es, hrow]
    refine view_loop_ok k hi hgs hc hra hrl (w0 := w0) hE hGm (fun a w' hI hH' => ?_) ⟨Nat.zero_le _, by omega, ?_, ?_, ?_, ?_, ?_, ?_⟩ hH2
    · have e7 := hI.e7
      simp [Z0h, Z0c, Z0d, Z09, Z0a, Z0i, Z0b, Z0f, Z0g, Z2z, Z2y, Z07, Z08, Z06, Z01, Z02, Z00, Z04, Z05, Z03, Z1z, Z1y, Z46, Z48, Z47, Z45, Z1n, Z1o, Z1m, Z3n, Z3k, Z3m, Z3l, Z3o, Z1l, Z29, Z32, Z3x, Z1i, Z1j, Z1k, Z3v, Z3w, Z1g, Z28, Z1h, Z3i, Z3f, Z3h, Z3g, Z3j, Z41, Z40, Z0t, Z0u, Z0v, Z0s, Z1f, Z4c, Z4b, Z4d, Z4a, Z49, ex, Z43, Z42, ev_t, ev_c, Z27, Z26, Z4e, Z4f, Z2m, Z2l, Z2f, Z2j, Z2k, Z2g, Z2h, Z2i, putc, exBslice, lfill, exField, exIdxV, exIdxP, exBox, exAlloc, exLoad, exStore, exFieldA, exIdxA, exLen, exPick, exUn, exBeq, exMM, exSeq, seqGo, exExt, binV, intOp, subc, AV.solid, S0, encI, encB, AWW, WG, WThen, WBlock, pureA, Eff.run_val, e7]
      have hbl := hI.bl
      rw [← hvk] at hbl
      refine CallW.string k hE hbl hH' fun w2 h2 => ?_
      simp [strAV, h2]
    · simp [AF.put, updF, encI, Z22, encIs]
    · simp [AF.put, updF, encI]
    · simp [AF.put, updF, encI, encIs]
    · simp [AF.put, updF, encI]
    · simp [AF.put, updF, encI]
    · simpa using b2
/-! ### finer -/
theorem idxOf_inst {K : Type} [DecidableEq K] [i : BEq K] [LawfulBEq K] (k : K) (l : List K) : @List.idxOf K instBEqOfDecidableEq k l = @List.idxOf K i k l := by
  have e : ∀ a b : K, (@BEq.beq K instBEqOfDecidableEq a b) = @BEq.beq K i a b := fun a b => by
    by_cases h : a = b
    · exact (decide_eq_true h).trans (beq_iff_eq.mpr h).symm
    · exact (decide_eq_false h).trans (beq_eq_false_iff_ne.mpr h).symm
  have e2 : @instBEqOfDecidableEq K _ = i := by
    cases i with
    | mk f => exact congrArg BEq.mk (funext fun a => funext fun b => e a b)
  rw [e2]
theorem closed_V (l : List Int) : Closed (encV l) := .v _
theorem num_lt (l : List (List Int)) : ∀ x ∈ (numF1 l).2, 0 ≤ x ∧ x < l.length := by
  have h := numF1_ok l
  intro x hx
  obtain ⟨i, hi, rfl⟩ := List.getElem_of_mem hx
  have hil : i < l.length := by rw [← h.len]; exact hi
  have h1 := h.at_ i hil
  rw [List.getElem?_eq_getElem hi, Option.some.injEq] at h1
  have h2 := List.idxOf_lt_length_iff.mpr ((h.mem l[i]).mpr (List.getElem_mem hil))
  have h3 := num_le l
  rw [h1]; omega
theorem view_good {d : Det} (R : RightD d) {c : List Int} (hcl : c.length = d.next.length) (hc : ∀ n ∈ c, Goo n) {s : Nat} (hs : s < d.next.length) : VGood (viewK d c s) := by
  have hg : ∀ i, i < c.length → Goo (c.getD i 0) := fun i hi => by
    rw [List.getD_eq_getElem?_getD, List.getElem?_eq_getElem hi]; exact hc _ (List.getElem_mem hi)
  refine ⟨by simp [viewK], fun n hn => ?_⟩
  simp only [viewK, List.mem_cons, List.mem_map] at hn
  rcases hn with rfl | ⟨t, ht, rfl⟩
  · exact hg s (by omega)
  · rw [List.getD_eq_getElem?_getD, List.getElem?_eq_getElem hs, Option.getD_some] at ht
    obtain ⟨j, hj, rfl⟩ := List.getElem_of_mem ht
    have := R.at_ s hs j hj
    exact hg _ (by omega)
abbrev FiS := (List (List Int) × List Int) × Bool
def fiI (d : Det) (c : List Int) (i : Nat) (s : FiS) : Prop := s.1 = numF1 ((viewsL d c).take i)
def fiA (d : Det) (c : List Int) (i : Nat) (s : FiS) : List (Nat × AV) := [(1, encIs c), (2, .ptr 0 0 0), (6, .mp 1), (7, vV s.2 2 (s.1.2.map encI)), (15, encI d.next.length), (16, encI i)]
def fiG (d : Det) (i : Nat) (s : FiS) : List (Nat × Option Blk) := [(0, some (.arr 3 [encDet d])), (1, some (.map (entsG encV 0 s.1.1))), (2, vB s.2 1 (s.1.2.map encI))]
theorem finer_body {P : Program} {fv : FuncId} {d : Det} (R : RightD d) {c : List Int} (hcl : c.length = d.next.length) (hc : ∀ n ∈ c, Goo n) (hv : ∀ s : Nat, s < d.next.length → PureC P fv [encDet d, encIs c, encI s] (encV (viewK d c s))) :
    AWb P 0 (c_least_finer fv) (RetK [4, 5] (FzK (.tup [encIs (finerF d c).2, encI (finerF d c).1.length]))) (argF [encDet d, encIs c]) S0 := by
  have hn := R.n2
  simp [AWb_seq, Z0m, Z0n, Z0j, Z0k, Z0r, Z0l, Z0p, Z0q, Z0o, Z21, Z20, Z22, Z23, Z3d, Z3e, Z3a, vIdx, Z4x, Z4w, Z4y, vApp, Z4u, Z3u, Z11, Z10, Z0z, Z0x, Z0w, Z0y, Z17, Z16, Z15, Z13, Z12, Z14, Z2c, Z2d, Z2a, Z2n, Z31, Z30, Z07, Z08, Z06, Z01, Z02, Z00, Z04, Z05, Z03, Z1z, Z1y, Z46, Z48, Z47, Z45, Z1n, Z1o, Z1m, Z3n, Z3k, Z3m, Z3l, Z3o, Z1l, Z29, Z32, Z3x, Z1i, Z1j, Z1k, Z3v, Z3w, Z1g, Z28, Z1h, Z3i, Z3f, Z3h, Z3g, Z3j, Z41, Z40, Z0t, Z0u, Z0v, Z0s, Z1f, Z4c, Z4b, Z4d, Z4a, Z49, ex, Z43, Z42, ev_t, ev_c, Z27, Z26, Z4e, Z4f, Z2m, Z2l, Z2f, Z2j, Z2k, Z2g, Z2h, Z2i, putc, exBslice, lfill, exField, exIdxV, exIdxP, exBox, exAlloc, Z3b, Z3c, exStore, exFieldA, Z34, Z33, Z39, Z38, exPick, exUn, exBeq, exMM, exSeq, seqGo, exExt, binV, intOp, subc, Z4s, Z4r, Z4p, Z4q, Z4n, Z4l, Z4m, Z4o, Z4i, Z4j, Z4g, Z4t, S0, encI, encB, Z4k, Z2e, Z25, Z4h, Z2b, Z24, Z36, Z37, Z35, Z3s, Z3t, Z3r, Z3p, Z3q, idxT_Bs, c_least_finer, exMmk]
  refine AWb_for d.next.length (fiI d c) (fiA d c) 10 (fiG d) (([], []), false) (by simp [fiI, numF1]) ?_ ?_
  · refine Abs.of [(0, 0), (1, 3)] [] (by omega) ⟨by simp, by simp⟩ ?_ ?_
    · simp [RenL_snoc, RenL.cl, RenV.cl, Z2r, Z2o, Z2s, Z2t, Z2p, Z2v, Z2u, Z2q, Z2w, Z2x, Z1d, Z1c, Z1b, Z19, Z18, Z1a, Z1e, Z52, Z4v, Z4z, Z3y, Z51, Z50, Z3z, Z1p, Z1q, Z1x, Z1v, Z1w, Z1u, Z1t, Z1s, Z1r, Z44, Z43, Z42, Z4e, Z4f, Z22, Z23, Z3d, Z3e, Z27, Z26, vV_t, vV_f, vB_t, vB_f, encI, encB, fiG, entsG, closed_Det]
      exact map_ren (by simp [CloM])
    · simp [RenL_snoc, RenL.cl, RenV.cl, Z2r, Z2o, Z2s, Z2t, Z2p, Z2v, Z2u, Z2q, Z2w, Z2x, Z1d, Z1c, Z1b, Z19, Z18, Z1a, Z1e, Z52, Z4v, Z4z, Z3y, Z51, Z50, Z3z, Z1p, Z1q, Z1x, Z1v, Z1w, Z1u, Z1t, Z1s, Z1r, Z44, Z43, Z42, Z4e, Z4f, Z22, Z23, Z3d, Z3e, Z27, Z26, vV_t, vV_f, vB_t, vB_f, encI, encB, fiA]
  · rintro i ⟨⟨ks, ls⟩, o⟩ hi hx
    simp only [fiI] at hx
    have ok := numF1_ok ((viewsL d c).take i)
    rw [← hx] at ok
    have hvl := viewsL_len d c
    have hll := ok.len
    simp only [List.length_take] at hll
    by_cases hlt : i < d.next.length
    · have hxi := hv i hlt
      have hvi : (viewsL d c)[i]'(by omega) = viewK d c i := by simp [viewsL]
      have hsn : numF1 ((viewsL d c).take (i + 1)) = numStep (ks, ls) (viewK d c i) := by rw [List.take_succ_eq_append_getElem (by omega), numF1_snoc, ← hx, hvi]
      have hkg : VGood (viewK d c i) := view_good R hcl hc hlt
      have hks : ∀ k ∈ ks, VGood k := fun k hk => by
        have := (ok.mem k).mp hk
        have := List.mem_of_mem_take this
        simp only [viewsL, List.mem_map, List.mem_range] at this
        obtain ⟨j, hj, rfl⟩ := this
        exact view_good R hcl hc hj
      have hok : appOk 8 ls.length 1 := by unfold appOk; omega
      generalize hk : viewK d c i = k at *
      have hlook := fun (km nid : Nat) (S : St) (hg : S.g km = some (.map (entsG encV 0 ks))) => lookG (nid := nid) keyV hkg hks hg
      have hlen := fun (km nid : Nat) (S : St) (hg : S.g km = some (.map (entsG encV 0 ks))) => lenG (nid := nid) hg
      by_cases hin : k ∈ ks
      · have hst : numStep (ks, ls) k = (ks, ls ++ [(ks.idxOf k : Int)]) := by simp [numStep, hin]
        simp [AWb_seq, Z0m, Z0n, Z0j, Z0k, Z0r, Z0l, Z0p, Z0q, Z0o, Z21, Z20, Z22, Z23, Z3d, Z3e, Z3a, vIdx, Z4x, Z4w, Z4y, vApp, Z4u, Z3u, Z11, Z10, Z0z, Z0x, Z0w, Z0y, Z17, Z16, Z15, Z13, Z12, Z14, Z2c, Z2d, Z2a, Z2n, Z31, Z30, Z07, Z08, Z06, Z01, Z02, Z00, Z04, Z05, Z03, Z1z, Z1y, Z46, Z48, Z47, Z45, Z1n, Z1o, Z1m, Z3n, Z3k, Z3m, Z3l, Z3o, Z1l, Z29, Z32, Z3x, Z1i, Z1j, Z1k, Z3v, Z3w, Z1g, Z28, Z1h, Z3i, Z3f, Z3h, Z3g, Z3j, Z41, Z40, Z0t, Z0u, Z0v, Z0s, Z1f, Z4c, Z4b, Z4d, Z4a, Z49, ex, Z43, Z42, ev_t, ev_c, Z27, Z26, Z4e, Z4f, Z2m, Z2l, Z2f, Z2j, Z2k, Z2g, Z2h, Z2i, putc, exBslice, lfill, exField, exIdxV, exIdxP, exBox, exAlloc, Z3b, Z3c, exStore, exFieldA, Z34, Z33, Z39, Z38, exPick, exUn, exBeq, exMM, exSeq, seqGo, exExt, binV, intOp, subc, Z4s, Z4r, Z4p, Z4q, Z4n, Z4l, Z4m, Z4o, Z4i, Z4j, Z4g, Z4t, S0, encI, encB, Z4k, Z2e, Z25, Z4h, Z2b, Z24, Z36, Z37, Z35, Z3s, Z3t, Z3r, Z3p, Z3q, idxT_Bs, fiA, fiG, hlt]
        refine CallR.pure hxi (cl_cons (closed_Det d) (cl_cons (Z2s _) (cl_cons (Z2r _) cl_nil))) (closed_V _) ?_
        simp [AWb_seq, Z0m, Z0n, Z0j, Z0k, Z0r, Z0l, Z0p, Z0q, Z0o, Z21, Z20, Z22, Z23, Z3d, Z3e, Z3a, vIdx, Z4x, Z4w, Z4y, vApp, Z4u, Z3u, Z11, Z10, Z0z, Z0x, Z0w, Z0y, Z17, Z16, Z15, Z13, Z12, Z14, Z2c, Z2d, Z2a, Z2n, Z31, Z30, Z07, Z08, Z06, Z01, Z02, Z00, Z04, Z05, Z03, Z1z, Z1y, Z46, Z48, Z47, Z45, Z1n, Z1o, Z1m, Z3n, Z3k, Z3m, Z3l, Z3o, Z1l, Z29, Z32, Z3x, Z1i, Z1j, Z1k, Z3v, Z3w, Z1g, Z28, Z1h, Z3i, Z3f, Z3h, Z3g, Z3j, Z41, Z40, Z0t, Z0u, Z0v, Z0s, Z1f, Z4c, Z4b, Z4d, Z4a, Z49, ex, Z43, Z42, ev_t, ev_c, Z27, Z26, Z4e, Z4f, Z2m, Z2l, Z2f, Z2j, Z2k, Z2g, Z2h, Z2i, putc, exBslice, lfill, exField, exIdxV, exIdxP, exBox, exAlloc, Z3b, Z3c, exStore, exFieldA, Z34, Z33, Z39, Z38, exPick, exUn, exBeq, exMM, exSeq, seqGo, exExt, binV, intOp, subc, Z4s, Z4r, Z4p, Z4q, Z4n, Z4l, Z4m, Z4o, Z4i, Z4j, Z4g, Z4t, S0, encI, encB, Z4k, Z2e, Z25, Z4h, Z2b, Z24, Z36, Z37, Z35, Z3s, Z3t, Z3r, Z3p, Z3q, idxT_Bs, hlook, hin, hok]
        rw [wrap_in _ (by omega)]
        refine ⟨hlt, ((ks, ls ++ [(ks.idxOf k : Int)]), true), by rw [fiI, hsn, hst], Abs.of [(0, 0), (1, 1), (2, 31)] [] (by omega) ⟨by simp, by simp⟩ ?_ ?_⟩
        · simp [RenL_snoc, RenL.cl, RenV.cl, Z2r, Z2o, Z2s, Z2t, Z2p, Z2v, Z2u, Z2q, Z2w, Z2x, Z1d, Z1c, Z1b, Z19, Z18, Z1a, Z1e, Z52, Z4v, Z4z, Z3y, Z51, Z50, Z3z, Z1p, Z1q, Z1x, Z1v, Z1w, Z1u, Z1t, Z1s, Z1r, Z44, Z43, Z42, Z4e, Z4f, Z22, Z23, Z3d, Z3e, Z27, Z26, vV_t, vV_f, vB_t, vB_f, encI, encB, fiG, closed_Det]
          exact ⟨map_ren (CloM_G closed_V _ _), by rw [idxOf_inst]⟩
        · simp [RenL_snoc, RenL.cl, RenV.cl, Z2r, Z2o, Z2s, Z2t, Z2p, Z2v, Z2u, Z2q, Z2w, Z2x, Z1d, Z1c, Z1b, Z19, Z18, Z1a, Z1e, Z52, Z4v, Z4z, Z3y, Z51, Z50, Z3z, Z1p, Z1q, Z1x, Z1v, Z1w, Z1u, Z1t, Z1s, Z1r, Z44, Z43, Z42, Z4e, Z4f, Z22, Z23, Z3d, Z3e, Z27, Z26, vV_t, vV_f, vB_t, vB_f, encI, encB, fiA]
      · have hst : numStep (ks, ls) k = (ks ++ [k], ls ++ [(ks.length : Int)]) := by simp [numStep, hin]
        have hmset := fun (km nid : Nat) (S : St) (hg : S.g km = some (.map (entsG encV 0 ks))) => msetG (nid := nid) keyV hkg hks hin hg
        simp [AWb_seq, Z0m, Z0n, Z0j, Z0k, Z0r, Z0l, Z0p, Z0q, Z0o, Z21, Z20, Z22, Z23, Z3d, Z3e, Z3a, vIdx, Z4x, Z4w, Z4y, vApp, Z4u, Z3u, Z11, Z10, Z0z, Z0x, Z0w, Z0y, Z17, Z16, Z15, Z13, Z12, Z14, Z2c, Z2d, Z2a, Z2n, Z31, Z30, Z07, Z08, Z06, Z01, Z02, Z00, Z04, Z05, Z03, Z1z, Z1y, Z46, Z48, Z47, Z45, Z1n, Z1o, Z1m, Z3n, Z3k, Z3m, Z3l, Z3o, Z1l, Z29, Z32, Z3x, Z1i, Z1j, Z1k, Z3v, Z3w, Z1g, Z28, Z1h, Z3i, Z3f, Z3h, Z3g, Z3j, Z41, Z40, Z0t, Z0u, Z0v, Z0s, Z1f, Z4c, Z4b, Z4d, Z4a, Z49, ex, Z43, Z42, ev_t, ev_c, Z27, Z26, Z4e, Z4f, Z2m, Z2l, Z2f, Z2j, Z2k, Z2g, Z2h, Z2i, putc, exBslice, lfill, exField, exIdxV, exIdxP, exBox, exAlloc, Z3b, Z3c, exStore, exFieldA, Z34, Z33, Z39, Z38, exPick, exUn, exBeq, exMM, exSeq, seqGo, exExt, binV, intOp, subc, Z4s, Z4r, Z4p, Z4q, Z4n, Z4l, Z4m, Z4o, Z4i, Z4j, Z4g, Z4t, S0, encI, encB, Z4k, Z2e, Z25, Z4h, Z2b, Z24, Z36, Z37, Z35, Z3s, Z3t, Z3r, Z3p, Z3q, idxT_Bs, fiA, fiG, hlt]
        refine CallR.pure hxi (cl_cons (closed_Det d) (cl_cons (Z2s _) (cl_cons (Z2r _) cl_nil))) (closed_V _) ?_
        simp [AWb_seq, Z0m, Z0n, Z0j, Z0k, Z0r, Z0l, Z0p, Z0q, Z0o, Z21, Z20, Z22, Z23, Z3d, Z3e, Z3a, vIdx, Z4x, Z4w, Z4y, vApp, Z4u, Z3u, Z11, Z10, Z0z, Z0x, Z0w, Z0y, Z17, Z16, Z15, Z13, Z12, Z14, Z2c, Z2d, Z2a, Z2n, Z31, Z30, Z07, Z08, Z06, Z01, Z02, Z00, Z04, Z05, Z03, Z1z, Z1y, Z46, Z48, Z47, Z45, Z1n, Z1o, Z1m, Z3n, Z3k, Z3m, Z3l, Z3o, Z1l, Z29, Z32, Z3x, Z1i, Z1j, Z1k, Z3v, Z3w, Z1g, Z28, Z1h, Z3i, Z3f, Z3h, Z3g, Z3j, Z41, Z40, Z0t, Z0u, Z0v, Z0s, Z1f, Z4c, Z4b, Z4d, Z4a, Z49, ex, Z43, Z42, ev_t, ev_c, Z27, Z26, Z4e, Z4f, Z2m, Z2l, Z2f, Z2j, Z2k, Z2g, Z2h, Z2i, putc, exBslice, lfill, exField, exIdxV, exIdxP, exBox, exAlloc, Z3b, Z3c, exStore, exFieldA, Z34, Z33, Z39, Z38, exPick, exUn, exBeq, exMM, exSeq, seqGo, exExt, binV, intOp, subc, Z4s, Z4r, Z4p, Z4q, Z4n, Z4l, Z4m, Z4o, Z4i, Z4j, Z4g, Z4t, S0, encI, encB, Z4k, Z2e, Z25, Z4h, Z2b, Z24, Z36, Z37, Z35, Z3s, Z3t, Z3r, Z3p, Z3q, idxT_Bs, hlook, hin, hok, hlen, hmset]
        rw [wrap_in _ (by omega)]
        refine ⟨hlt, ((ks ++ [k], ls ++ [(ks.length : Int)]), true), by rw [fiI, hsn, hst], Abs.of [(0, 0), (1, 1), (2, 38)] [] (by omega) ⟨by simp, by simp⟩ ?_ ?_⟩
        · simp [RenL_snoc, RenL.cl, RenV.cl, Z2r, Z2o, Z2s, Z2t, Z2p, Z2v, Z2u, Z2q, Z2w, Z2x, Z1d, Z1c, Z1b, Z19, Z18, Z1a, Z1e, Z52, Z4v, Z4z, Z3y, Z51, Z50, Z3z, Z1p, Z1q, Z1x, Z1v, Z1w, Z1u, Z1t, Z1s, Z1r, Z44, Z43, Z42, Z4e, Z4f, Z22, Z23, Z3d, Z3e, Z27, Z26, vV_t, vV_f, vB_t, vB_f, encI, encB, fiG, closed_Det]
          exact map_ren (CloM_G closed_V _ _)
        · simp [RenL_snoc, RenL.cl, RenV.cl, Z2r, Z2o, Z2s, Z2t, Z2p, Z2v, Z2u, Z2q, Z2w, Z2x, Z1d, Z1c, Z1b, Z19, Z18, Z1a, Z1e, Z52, Z4v, Z4z, Z3y, Z51, Z50, Z3z, Z1p, Z1q, Z1x, Z1v, Z1w, Z1u, Z1t, Z1s, Z1r, Z44, Z43, Z42, Z4e, Z4f, Z22, Z23, Z3d, Z3e, Z27, Z26, vV_t, vV_f, vB_t, vB_f, encI, encB, fiA]
    · have hie : i = d.next.length := by omega
      have ht : (ks, ls) = finerF d c := by rw [hx, List.take_of_length_le (by omega)]; rfl
      have hlen := fun (km nid : Nat) (S : St) (hg : S.g km = some (.map (entsG encV 0 ks))) => lenG (nid := nid) hg
      rw [← ht]
      simp [AWb_seq, Z0m, Z0n, Z0j, Z0k, Z0r, Z0l, Z0p, Z0q, Z0o, Z21, Z20, Z22, Z23, Z3d, Z3e, Z3a, vIdx, Z4x, Z4w, Z4y, vApp, Z4u, Z3u, Z11, Z10, Z0z, Z0x, Z0w, Z0y, Z17, Z16, Z15, Z13, Z12, Z14, Z2c, Z2d, Z2a, Z2n, Z31, Z30, Z07, Z08, Z06, Z01, Z02, Z00, Z04, Z05, Z03, Z1z, Z1y, Z46, Z48, Z47, Z45, Z1n, Z1o, Z1m, Z3n, Z3k, Z3m, Z3l, Z3o, Z1l, Z29, Z32, Z3x, Z1i, Z1j, Z1k, Z3v, Z3w, Z1g, Z28, Z1h, Z3i, Z3f, Z3h, Z3g, Z3j, Z41, Z40, Z0t, Z0u, Z0v, Z0s, Z1f, Z4c, Z4b, Z4d, Z4a, Z49, ex, Z43, Z42, ev_t, ev_c, Z27, Z26, Z4e, Z4f, Z2m, Z2l, Z2f, Z2j, Z2k, Z2g, Z2h, Z2i, putc, exBslice, lfill, exField, exIdxV, exIdxP, exBox, exAlloc, Z3b, Z3c, exStore, exFieldA, Z34, Z33, Z39, Z38, exPick, exUn, exBeq, exMM, exSeq, seqGo, exExt, binV, intOp, subc, Z4s, Z4r, Z4p, Z4q, Z4n, Z4l, Z4m, Z4o, Z4i, Z4j, Z4g, Z4t, S0, encI, encB, Z4k, Z2e, Z25, Z4h, Z2b, Z24, Z36, Z37, Z35, Z3s, Z3t, Z3r, Z3p, Z3q, idxT_Bs, fiA, fiG, hie, hlen]
      refine .tupL (.cons (vV_fz ?_ (Z19 _)) (.cons (.closed _ (.v _)) .nil))
      simp [RenL_snoc, RenL.cl, RenV.cl, Z2r, Z2o, Z2s, Z2t, Z2p, Z2v, Z2u, Z2q, Z2w, Z2x, Z1d, Z1c, Z1b, Z19, Z18, Z1a, Z1e, Z52, Z4v, Z4z, Z3y, Z51, Z50, Z3z, Z1p, Z1q, Z1x, Z1v, Z1w, Z1u, Z1t, Z1s, Z1r, Z44, Z43, Z42, Z4e, Z4f, Z22, Z23, Z3d, Z3e, Z27, Z26, vV_t, vV_f, vB_t, vB_f, encI, encB]
/-! ### classes -/
def clI (d : Det) (m : Nat) (s : List Int × Nat) : Prop :=
  clsGo d m s.1 s.2 = classesD d ∧ (∃ j, ClsN d j s.1) ∧ d.next.length < m + s.2 ∧ s.2 ≤ d.next.length ∧ s.2 ≤ (finerF d s.1).1.length ∧ ∀ x ∈ s.1, Goo x
def clA (s : List Int × Nat) : List (Nat × AV) := [(1, .ptr 0 0 0), (3, encIs s.1), (4, encI s.2)]
def clG (d : Det) (_ : List Int × Nat) : List (Nat × Option Blk) := [(0, some (.arr 3 [encDet d]))]
theorem classes_body {P : Program} {fc ff : FuncId} {d : Det} (R : RightD d) (hc : PureC P fc [encDet d] (encIs (coarse d)))
    (hf : ∀ c : List Int, c.length = d.next.length → (∀ n ∈ c, Goo n) → PureC P ff [encDet d, encIs c] (.tup [encIs (finerF d c).2, encI (finerF d c).1.length])) :
    AWb P 0 (c_least_classes fc ff) (RetK [2] (FzK (encIs (classesD d)))) (argF [encDet d]) S0 := by
  have hn := R.n2
  simp [AWb_seq, Z0m, Z0n, Z0j, Z0k, Z0r, Z0l, Z0p, Z0q, Z0o, Z21, Z20, Z22, Z23, Z3d, Z3e, Z3a, vIdx, Z4x, Z4w, Z4y, vApp, Z4u, Z3u, Z11, Z10, Z0z, Z0x, Z0w, Z0y, Z17, Z16, Z15, Z13, Z12, Z14, Z2c, Z2d, Z2a, Z2n, Z31, Z30, Z07, Z08, Z06, Z01, Z02, Z00, Z04, Z05, Z03, Z1z, Z1y, Z46, Z48, Z47, Z45, Z1n, Z1o, Z1m, Z3n, Z3k, Z3m, Z3l, Z3o, Z1l, Z29, Z32, Z3x, Z1i, Z1j, Z1k, Z3v, Z3w, Z1g, Z28, Z1h, Z3i, Z3f, Z3h, Z3g, Z3j, Z41, Z40, Z0t, Z0u, Z0v, Z0s, Z1f, Z4c, Z4b, Z4d, Z4a, Z49, ex, Z43, Z42, ev_t, ev_c, Z27, Z26, Z4e, Z4f, Z2m, Z2l, Z2f, Z2j, Z2k, Z2g, Z2h, Z2i, putc, exBslice, lfill, exField, exIdxV, exIdxP, exBox, exAlloc, Z3b, Z3c, exStore, exFieldA, Z34, Z33, Z39, Z38, exPick, exUn, exBeq, exMM, exSeq, seqGo, exExt, binV, intOp, subc, Z4s, Z4r, Z4p, Z4q, Z4n, Z4l, Z4m, Z4o, Z4i, Z4j, Z4g, Z4t, S0, encI, encB, Z4k, Z2e, Z25, Z4h, Z2b, Z24, Z36, Z37, Z35, Z3s, Z3t, Z3r, Z3p, Z3q, idxT_Bs, c_least_classes]
  refine CallR.pure hc (cl_cons (closed_Det d) cl_nil) (Z2s _) ?_
  simp [AWb_seq, Z0m, Z0n, Z0j, Z0k, Z0r, Z0l, Z0p, Z0q, Z0o, Z21, Z20, Z22, Z23, Z3d, Z3e, Z3a, vIdx, Z4x, Z4w, Z4y, vApp, Z4u, Z3u, Z11, Z10, Z0z, Z0x, Z0w, Z0y, Z17, Z16, Z15, Z13, Z12, Z14, Z2c, Z2d, Z2a, Z2n, Z31, Z30, Z07, Z08, Z06, Z01, Z02, Z00, Z04, Z05, Z03, Z1z, Z1y, Z46, Z48, Z47, Z45, Z1n, Z1o, Z1m, Z3n, Z3k, Z3m, Z3l, Z3o, Z1l, Z29, Z32, Z3x, Z1i, Z1j, Z1k, Z3v, Z3w, Z1g, Z28, Z1h, Z3i, Z3f, Z3h, Z3g, Z3j, Z41, Z40, Z0t, Z0u, Z0v, Z0s, Z1f, Z4c, Z4b, Z4d, Z4a, Z49, ex, Z43, Z42, ev_t, ev_c, Z27, Z26, Z4e, Z4f, Z2m, Z2l, Z2f, Z2j, Z2k, Z2g, Z2h, Z2i, putc, exBslice, lfill, exField, exIdxV, exIdxP, exBox, exAlloc, Z3b, Z3c, exStore, exFieldA, Z34, Z33, Z39, Z38, exPick, exUn, exBeq, exMM, exSeq, seqGo, exExt, binV, intOp, subc, Z4s, Z4r, Z4p, Z4q, Z4n, Z4l, Z4m, Z4o, Z4i, Z4j, Z4g, Z4t, S0, encI, encB, Z4k, Z2e, Z25, Z4h, Z2b, Z24, Z36, Z37, Z35, Z3s, Z3t, Z3r, Z3p, Z3q, idxT_Bs]
  refine AWb_while (clI d) clA 10 (clG d) (d.next.length + 1) (coarse d, 0) ⟨rfl, ⟨0, cls_coarse R⟩, by simp, by simp, by simp, fun x hx => ?_⟩ ?_ ?_
  · simp only [coarse, List.mem_map] at hx
    obtain ⟨b, _, rfl⟩ := hx
    unfold Goo; split <;> omega
  · refine Abs.of [(0, 0)] [] (by omega) ⟨by simp, by simp⟩ ?_ ?_
    · simp [RenL_snoc, RenL.cl, RenV.cl, Z2r, Z2o, Z2s, Z2t, Z2p, Z2v, Z2u, Z2q, Z2w, Z2x, Z1d, Z1c, Z1b, Z19, Z18, Z1a, Z1e, Z52, Z4v, Z4z, Z3y, Z51, Z50, Z3z, Z1p, Z1q, Z1x, Z1v, Z1w, Z1u, Z1t, Z1s, Z1r, Z44, Z43, Z42, Z4e, Z4f, Z22, Z23, Z3d, Z3e, Z27, Z26, vV_t, vV_f, vB_t, vB_f, encI, encB, clG, closed_Det]
    · simp [RenL_snoc, RenL.cl, RenV.cl, Z2r, Z2o, Z2s, Z2t, Z2p, Z2v, Z2u, Z2q, Z2w, Z2x, Z1d, Z1c, Z1b, Z19, Z18, Z1a, Z1e, Z52, Z4v, Z4z, Z3y, Z51, Z50, Z3z, Z1p, Z1q, Z1x, Z1v, Z1w, Z1u, Z1t, Z1s, Z1r, Z44, Z43, Z42, Z4e, Z4f, Z22, Z23, Z3d, Z3e, Z27, Z26, vV_t, vV_f, vB_t, vB_f, encI, encB, clA]
  · rintro m ⟨c, n⟩ ⟨h1, ⟨j, h2⟩, h3, h4, h5, h6⟩
    simp only at h1 h2 h3 h4 h5 h6
    obtain ⟨a1, a2, a3, a4⟩ := finer_le R h2
    obtain ⟨m, rfl⟩ : ∃ m', m = m' + 1 := ⟨m - 1, by omega⟩
    rw [clsGo] at h1
    simp [AWb_seq, Z0m, Z0n, Z0j, Z0k, Z0r, Z0l, Z0p, Z0q, Z0o, Z21, Z20, Z22, Z23, Z3d, Z3e, Z3a, vIdx, Z4x, Z4w, Z4y, vApp, Z4u, Z3u, Z11, Z10, Z0z, Z0x, Z0w, Z0y, Z17, Z16, Z15, Z13, Z12, Z14, Z2c, Z2d, Z2a, Z2n, Z31, Z30, Z07, Z08, Z06, Z01, Z02, Z00, Z04, Z05, Z03, Z1z, Z1y, Z46, Z48, Z47, Z45, Z1n, Z1o, Z1m, Z3n, Z3k, Z3m, Z3l, Z3o, Z1l, Z29, Z32, Z3x, Z1i, Z1j, Z1k, Z3v, Z3w, Z1g, Z28, Z1h, Z3i, Z3f, Z3h, Z3g, Z3j, Z41, Z40, Z0t, Z0u, Z0v, Z0s, Z1f, Z4c, Z4b, Z4d, Z4a, Z49, ex, Z43, Z42, ev_t, ev_c, Z27, Z26, Z4e, Z4f, Z2m, Z2l, Z2f, Z2j, Z2k, Z2g, Z2h, Z2i, putc, exBslice, lfill, exField, exIdxV, exIdxP, exBox, exAlloc, Z3b, Z3c, exStore, exFieldA, Z34, Z33, Z39, Z38, exPick, exUn, exBeq, exMM, exSeq, seqGo, exExt, binV, intOp, subc, Z4s, Z4r, Z4p, Z4q, Z4n, Z4l, Z4m, Z4o, Z4i, Z4j, Z4g, Z4t, S0, encI, encB, Z4k, Z2e, Z25, Z4h, Z2b, Z24, Z36, Z37, Z35, Z3s, Z3t, Z3r, Z3p, Z3q, idxT_Bs, clA, clG]
    refine CallR.pure (hf c h2.len h6) (cl_cons (closed_Det d) (cl_cons (Z2s _) cl_nil)) (.tup _ (cl_cons (Z2s _) (cl_cons (Z2r _) cl_nil))) ?_
    by_cases he : (finerF d c).1.length = n
    · rw [if_pos he] at h1
      simp [AWb_seq, Z0m, Z0n, Z0j, Z0k, Z0r, Z0l, Z0p, Z0q, Z0o, Z21, Z20, Z22, Z23, Z3d, Z3e, Z3a, vIdx, Z4x, Z4w, Z4y, vApp, Z4u, Z3u, Z11, Z10, Z0z, Z0x, Z0w, Z0y, Z17, Z16, Z15, Z13, Z12, Z14, Z2c, Z2d, Z2a, Z2n, Z31, Z30, Z07, Z08, Z06, Z01, Z02, Z00, Z04, Z05, Z03, Z1z, Z1y, Z46, Z48, Z47, Z45, Z1n, Z1o, Z1m, Z3n, Z3k, Z3m, Z3l, Z3o, Z1l, Z29, Z32, Z3x, Z1i, Z1j, Z1k, Z3v, Z3w, Z1g, Z28, Z1h, Z3i, Z3f, Z3h, Z3g, Z3j, Z41, Z40, Z0t, Z0u, Z0v, Z0s, Z1f, Z4c, Z4b, Z4d, Z4a, Z49, ex, Z43, Z42, ev_t, ev_c, Z27, Z26, Z4e, Z4f, Z2m, Z2l, Z2f, Z2j, Z2k, Z2g, Z2h, Z2i, putc, exBslice, lfill, exField, exIdxV, exIdxP, exBox, exAlloc, Z3b, Z3c, exStore, exFieldA, Z34, Z33, Z39, Z38, exPick, exUn, exBeq, exMM, exSeq, seqGo, exExt, binV, intOp, subc, Z4s, Z4r, Z4p, Z4q, Z4n, Z4l, Z4m, Z4o, Z4i, Z4j, Z4g, Z4t, S0, encI, encB, Z4k, Z2e, Z25, Z4h, Z2b, Z24, Z36, Z37, Z35, Z3s, Z3t, Z3r, Z3p, Z3q, idxT_Bs, he, h1]
      exact .closed _ (Z2s _)
    · rw [if_neg he] at h1
      have he' : (((finerF d c).1.length : Int) == (n : Int)) = false := by simp; omega
      simp [AWb_seq, Z0m, Z0n, Z0j, Z0k, Z0r, Z0l, Z0p, Z0q, Z0o, Z21, Z20, Z22, Z23, Z3d, Z3e, Z3a, vIdx, Z4x, Z4w, Z4y, vApp, Z4u, Z3u, Z11, Z10, Z0z, Z0x, Z0w, Z0y, Z17, Z16, Z15, Z13, Z12, Z14, Z2c, Z2d, Z2a, Z2n, Z31, Z30, Z07, Z08, Z06, Z01, Z02, Z00, Z04, Z05, Z03, Z1z, Z1y, Z46, Z48, Z47, Z45, Z1n, Z1o, Z1m, Z3n, Z3k, Z3m, Z3l, Z3o, Z1l, Z29, Z32, Z3x, Z1i, Z1j, Z1k, Z3v, Z3w, Z1g, Z28, Z1h, Z3i, Z3f, Z3h, Z3g, Z3j, Z41, Z40, Z0t, Z0u, Z0v, Z0s, Z1f, Z4c, Z4b, Z4d, Z4a, Z49, ex, Z43, Z42, ev_t, ev_c, Z27, Z26, Z4e, Z4f, Z2m, Z2l, Z2f, Z2j, Z2k, Z2g, Z2h, Z2i, putc, exBslice, lfill, exField, exIdxV, exIdxP, exBox, exAlloc, Z3b, Z3c, exStore, exFieldA, Z34, Z33, Z39, Z38, exPick, exUn, exBeq, exMM, exSeq, seqGo, exExt, binV, intOp, subc, Z4s, Z4r, Z4p, Z4q, Z4n, Z4l, Z4m, Z4o, Z4i, Z4j, Z4g, Z4t, S0, encI, encB, Z4k, Z2e, Z25, Z4h, Z2b, Z24, Z36, Z37, Z35, Z3s, Z3t, Z3r, Z3p, Z3q, idxT_Bs, he']
      refine ⟨m, ((finerF d c).2, (finerF d c).1.length), by omega, ⟨h1, ⟨_, cls_finer R h2⟩, by omega, a2, a1, fun x hx => ?_⟩, Abs.of [(0, 0)] [] (by omega) ⟨by simp, by simp⟩ ?_ ?_⟩
      · have := num_lt _ x hx
        rw [viewsL_len] at this
        exact ⟨this.1, by omega⟩
      · simp [RenL_snoc, RenL.cl, RenV.cl, Z2r, Z2o, Z2s, Z2t, Z2p, Z2v, Z2u, Z2q, Z2w, Z2x, Z1d, Z1c, Z1b, Z19, Z18, Z1a, Z1e, Z52, Z4v, Z4z, Z3y, Z51, Z50, Z3z, Z1p, Z1q, Z1x, Z1v, Z1w, Z1u, Z1t, Z1s, Z1r, Z44, Z43, Z42, Z4e, Z4f, Z22, Z23, Z3d, Z3e, Z27, Z26, vV_t, vV_f, vB_t, vB_f, encI, encB, clG, closed_Det]
      · simp [RenL_snoc, RenL.cl, RenV.cl, Z2r, Z2o, Z2s, Z2t, Z2p, Z2v, Z2u, Z2q, Z2w, Z2x, Z1d, Z1c, Z1b, Z19, Z18, Z1a, Z1e, Z52, Z4v, Z4z, Z3y, Z51, Z50, Z3z, Z1p, Z1q, Z1x, Z1v, Z1w, Z1u, Z1t, Z1s, Z1r, Z44, Z43, Z42, Z4e, Z4f, Z22, Z23, Z3d, Z3e, Z27, Z26, vV_t, vV_f, vB_t, vB_f, encI, encB, clA]
theorem Classes17_body {P : Program} {fr fc : FuncId} {d : Det} (hr : PureC P fr [encDet d] (encB (rightD d))) (hc : RightD d → PureC P fc [encDet d] (encIs (classesD d))) :
    AWb P 0 (c_least_Classes fr fc) (RetK [2] (FzK (encIs (if rightD d = true then classesD d else [])))) (argF [encDet d]) S0 := by
  simp [AWb_seq, Z0m, Z0n, Z0j, Z0k, Z0r, Z0l, Z0p, Z0q, Z0o, Z21, Z20, Z22, Z23, Z3d, Z3e, Z3a, vIdx, Z4x, Z4w, Z4y, vApp, Z4u, Z3u, Z11, Z10, Z0z, Z0x, Z0w, Z0y, Z17, Z16, Z15, Z13, Z12, Z14, Z2c, Z2d, Z2a, Z2n, Z31, Z30, Z07, Z08, Z06, Z01, Z02, Z00, Z04, Z05, Z03, Z1z, Z1y, Z46, Z48, Z47, Z45, Z1n, Z1o, Z1m, Z3n, Z3k, Z3m, Z3l, Z3o, Z1l, Z29, Z32, Z3x, Z1i, Z1j, Z1k, Z3v, Z3w, Z1g, Z28, Z1h, Z3i, Z3f, Z3h, Z3g, Z3j, Z41, Z40, Z0t, Z0u, Z0v, Z0s, Z1f, Z4c, Z4b, Z4d, Z4a, Z49, ex, Z43, Z42, ev_t, ev_c, Z27, Z26, Z4e, Z4f, Z2m, Z2l, Z2f, Z2j, Z2k, Z2g, Z2h, Z2i, putc, exBslice, lfill, exField, exIdxV, exIdxP, exBox, exAlloc, Z3b, Z3c, exStore, exFieldA, Z34, Z33, Z39, Z38, exPick, exUn, exBeq, exMM, exSeq, seqGo, exExt, binV, intOp, subc, Z4s, Z4r, Z4p, Z4q, Z4n, Z4l, Z4m, Z4o, Z4i, Z4j, Z4g, Z4t, S0, encI, encB, Z4k, Z2e, Z25, Z4h, Z2b, Z24, Z36, Z37, Z35, Z3s, Z3t, Z3r, Z3p, Z3q, idxT_Bs, c_least_Classes]
  refine CallR.pure hr (cl_cons (closed_Det d) cl_nil) (Z2o _) ?_
  cases hb : rightD d with
  | false =>
    simp [AWb_seq, Z0m, Z0n, Z0j, Z0k, Z0r, Z0l, Z0p, Z0q, Z0o, Z21, Z20, Z22, Z23, Z3d, Z3e, Z3a, vIdx, Z4x, Z4w, Z4y, vApp, Z4u, Z3u, Z11, Z10, Z0z, Z0x, Z0w, Z0y, Z17, Z16, Z15, Z13, Z12, Z14, Z2c, Z2d, Z2a, Z2n, Z31, Z30, Z07, Z08, Z06, Z01, Z02, Z00, Z04, Z05, Z03, Z1z, Z1y, Z46, Z48, Z47, Z45, Z1n, Z1o, Z1m, Z3n, Z3k, Z3m, Z3l, Z3o, Z1l, Z29, Z32, Z3x, Z1i, Z1j, Z1k, Z3v, Z3w, Z1g, Z28, Z1h, Z3i, Z3f, Z3h, Z3g, Z3j, Z41, Z40, Z0t, Z0u, Z0v, Z0s, Z1f, Z4c, Z4b, Z4d, Z4a, Z49, ex, Z43, Z42, ev_t, ev_c, Z27, Z26, Z4e, Z4f, Z2m, Z2l, Z2f, Z2j, Z2k, Z2g, Z2h, Z2i, putc, exBslice, lfill, exField, exIdxV, exIdxP, exBox, exAlloc, Z3b, Z3c, exStore, exFieldA, Z34, Z33, Z39, Z38, exPick, exUn, exBeq, exMM, exSeq, seqGo, exExt, binV, intOp, subc, Z4s, Z4r, Z4p, Z4q, Z4n, Z4l, Z4m, Z4o, Z4i, Z4j, Z4g, Z4t, S0, encI, encB, Z4k, Z2e, Z25, Z4h, Z2b, Z24, Z36, Z37, Z35, Z3s, Z3t, Z3r, Z3p, Z3q, idxT_Bs]
    exact fz_nil
  | true =>
    simp [AWb_seq, Z0m, Z0n, Z0j, Z0k, Z0r, Z0l, Z0p, Z0q, Z0o, Z21, Z20, Z22, Z23, Z3d, Z3e, Z3a, vIdx, Z4x, Z4w, Z4y, vApp, Z4u, Z3u, Z11, Z10, Z0z, Z0x, Z0w, Z0y, Z17, Z16, Z15, Z13, Z12, Z14, Z2c, Z2d, Z2a, Z2n, Z31, Z30, Z07, Z08, Z06, Z01, Z02, Z00, Z04, Z05, Z03, Z1z, Z1y, Z46, Z48, Z47, Z45, Z1n, Z1o, Z1m, Z3n, Z3k, Z3m, Z3l, Z3o, Z1l, Z29, Z32, Z3x, Z1i, Z1j, Z1k, Z3v, Z3w, Z1g, Z28, Z1h, Z3i, Z3f, Z3h, Z3g, Z3j, Z41, Z40, Z0t, Z0u, Z0v, Z0s, Z1f, Z4c, Z4b, Z4d, Z4a, Z49, ex, Z43, Z42, ev_t, ev_c, Z27, Z26, Z4e, Z4f, Z2m, Z2l, Z2f, Z2j, Z2k, Z2g, Z2h, Z2i, putc, exBslice, lfill, exField, exIdxV, exIdxP, exBox, exAlloc, Z3b, Z3c, exStore, exFieldA, Z34, Z33, Z39, Z38, exPick, exUn, exBeq, exMM, exSeq, seqGo, exExt, binV, intOp, subc, Z4s, Z4r, Z4p, Z4q, Z4n, Z4l, Z4m, Z4o, Z4i, Z4j, Z4g, Z4t, S0, encI, encB, Z4k, Z2e, Z25, Z4h, Z2b, Z24, Z36, Z37, Z35, Z3s, Z3t, Z3r, Z3p, Z3q, idxT_Bs]
    refine CallR.pure (hc ((right_iff d).mp hb)) (cl_cons (closed_Det d) cl_nil) (Z2s _) ?_
    simp [AWb_seq, Z0m, Z0n, Z0j, Z0k, Z0r, Z0l, Z0p, Z0q, Z0o, Z21, Z20, Z22, Z23, Z3d, Z3e, Z3a, vIdx, Z4x, Z4w, Z4y, vApp, Z4u, Z3u, Z11, Z10, Z0z, Z0x, Z0w, Z0y, Z17, Z16, Z15, Z13, Z12, Z14, Z2c, Z2d, Z2a, Z2n, Z31, Z30, Z07, Z08, Z06, Z01, Z02, Z00, Z04, Z05, Z03, Z1z, Z1y, Z46, Z48, Z47, Z45, Z1n, Z1o, Z1m, Z3n, Z3k, Z3m, Z3l, Z3o, Z1l, Z29, Z32, Z3x, Z1i, Z1j, Z1k, Z3v, Z3w, Z1g, Z28, Z1h, Z3i, Z3f, Z3h, Z3g, Z3j, Z41, Z40, Z0t, Z0u, Z0v, Z0s, Z1f, Z4c, Z4b, Z4d, Z4a, Z49, ex, Z43, Z42, ev_t, ev_c, Z27, Z26, Z4e, Z4f, Z2m, Z2l, Z2f, Z2j, Z2k, Z2g, Z2h, Z2i, putc, exBslice, lfill, exField, exIdxV, exIdxP, exBox, exAlloc, Z3b, Z3c, exStore, exFieldA, Z34, Z33, Z39, Z38, exPick, exUn, exBeq, exMM, exSeq, seqGo, exExt, binV, intOp, subc, Z4s, Z4r, Z4p, Z4q, Z4n, Z4l, Z4m, Z4o, Z4i, Z4j, Z4g, Z4t, S0, encI, encB, Z4k, Z2e, Z25, Z4h, Z2b, Z24, Z36, Z37, Z35, Z3s, Z3t, Z3r, Z3p, Z3q, idxT_Bs]
    exact .closed _ (Z2s _)
end Go.Rf

