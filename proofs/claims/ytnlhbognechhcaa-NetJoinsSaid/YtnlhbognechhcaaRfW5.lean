import Derived.Test.YtnlhbognechhcaaRfW4
/- Own work: how a net is laid: signs that there aren't are left out (walk of slices.DeleteFunc). -/
set_option linter.unusedVariables false
set_option linter.unusedSimpArgs false
namespace Go.Rf
open Go.RowKit
def c_net_maker_form_1 : AC :=
  (.seq (.reg none [
   ⟨(some 3), .mv (.c (.v (.bool false))), none, none⟩])
  (.seq (.reg none [
   ⟨(some 4), .mv (.t 0), none, none⟩,
   ⟨(some 5), .bin .lss (.t 4) (.c (.v (.int .i64 0))), none, none⟩,
   ⟨(some 6), .mv (.t 5), none, none⟩,
   ⟨(some 7), .mv (.t 0), (some (6, false)), none⟩,
   ⟨(some 8), .load none (.t 1), (some (6, false)), none⟩,
   ⟨(some 9), .nilc (.t 8), (some (6, false)), none⟩,
   ⟨(some 10), .fieldA 0 (.t 9), (some (6, false)), none⟩,
   ⟨(some 11), .fieldA 0 (.t 10), (some (6, false)), none⟩,
   ⟨(some 12), .load none (.t 11), (some (6, false)), none⟩,
   ⟨(some 13), .bin .geq (.t 7) (.t 12), (some (6, false)), none⟩,
   ⟨(some 14), .pick (.t 6) (.c (.v (.bool true))) (.t 13), none, none⟩,
   ⟨(some 3), .mv (.t 14), none, none⟩])
  .ret))
def c_df_in : AC :=
  (.loop (.seq (.seq (.reg none [
     ⟨(some 16), .mv (.t 6), none, none⟩,
     ⟨(some 17), .mv (.t 0), none, none⟩,
     ⟨(some 18), .len (.t 17), none, none⟩,
     ⟨(some 19), .bin .lss (.t 16) (.t 18), none, none⟩])
    (.cond (.t 19) .skip (.exit 0)))
    (.seq (.block 1 (.seq (.reg none [
      ⟨(some 22), .mv (.t 0), none, none⟩,
      ⟨(some 23), .mv (.t 6), none, none⟩,
      ⟨(some 24), .idxA 1 (.t 22) (.t 23), none, none⟩,
      ⟨(some 25), .load none (.t 24), none, none⟩,
      ⟨(some 7), .mv (.t 25), none, none⟩])
     (.seq (.reg none [
      ⟨(some 26), .mv (.t 1), none, none⟩,
      ⟨(some 27), .mv (.t 7), none, none⟩,
      ⟨(some 28), .mv (.c .junk), none, (some ((.t 26), [(.t 27)]))⟩,
      ⟨(some 29), .un .not (.t 28), none, none⟩])
     (.cond (.t 29) (.seq (.reg none [
       ⟨(some 30), .mv (.t 0), none, none⟩,
       ⟨(some 31), .mv (.t 5), none, none⟩,
       ⟨(some 32), .mv (.t 7), none, none⟩,
       ⟨(some 33), .idxA 1 (.t 30) (.t 31), none, none⟩,
       ⟨none, .store 1 (.t 33) (.t 32), none, none⟩])
      (.reg none [
       ⟨(some 34), .mv (.t 5), none, none⟩,
       ⟨(some 35), .bin .add (.t 34) (.c (.v (.int .i64 1))), none, none⟩,
       ⟨(some 5), .mv (.t 35), none, none⟩])) .skip))))
    (.reg none [
     ⟨(some 20), .mv (.t 6), none, none⟩,
     ⟨(some 21), .bin .add (.t 20) (.c (.v (.int .i64 1))), none, none⟩,
     ⟨(some 6), .mv (.t 21), none, none⟩]))))
def c_slices_DeleteFunc_Sint_int_ (f_slices_IndexFunc_Sint_int_ : FuncId) : AC :=
  (.seq (.reg none [
   ⟨(some 4), .mv (.c (.sl true [])), none, none⟩])
  (.seq (.reg none [
   ⟨(some 8), .mv (.t 0), none, none⟩,
   ⟨(some 9), .mv (.t 1), none, none⟩,
   ⟨(some 10), .mv (.c .junk), none, (some ((.c (.clo f_slices_IndexFunc_Sint_int_ [] [])), [(.t 8), (.t 9)]))⟩,
   ⟨(some 5), .mv (.t 10), none, none⟩])
  (.seq (.seq (.reg none [
   ⟨(some 11), .mv (.t 5), none, none⟩,
   ⟨(some 12), .bin .eql (.t 11) (.c (.v (.int .i64 (-1)))), none, none⟩])
  (.cond (.t 12) (.seq (.reg none [
    ⟨(some 13), .mv (.t 0), none, none⟩,
    ⟨(some 4), .mv (.t 13), none, none⟩])
   .ret) .skip))
  (.seq (.seq (.reg none [
   ⟨(some 14), .mv (.t 5), none, none⟩,
   ⟨(some 15), .bin .add (.t 14) (.c (.v (.int .i64 1))), none, none⟩,
   ⟨(some 6), .mv (.t 15), none, none⟩])
  (.block 0 c_df_in))
  (.seq (.reg none [
   ⟨(some 36), .mv (.t 0), none, none⟩,
   ⟨(some 37), .mv (.t 5), none, none⟩,
   ⟨(some 38), .slc 1 (.t 36) (some (.t 37)) none, none, none⟩,
   ⟨none, .clr 1 (.v (.int .i64 0)) (.t 38), none, none⟩])
  (.seq (.reg none [
   ⟨(some 39), .mv (.t 0), none, none⟩,
   ⟨(some 40), .mv (.t 5), none, none⟩,
   ⟨(some 41), .slc 1 (.t 39) none (some (.t 40)), none, none⟩,
   ⟨(some 4), .mv (.t 41), none, none⟩])
  .ret))))))
def kpI (sg n : Int) : Bool := decide (0 ≤ n) && decide (n < sg)
def mCb (sg : Int) : AV := .eptr (.eptr (.agg [encI sg]) 0) 0
theorem closed_mCb (sg : Int) : Closed (mCb sg) := .eptr _ _ (.eptr _ _ (.agg _ (cl_cons (Z2r _) cl_nil)))
theorem form1_body {P : Program} (sg n : Int) : AWb P 0 c_net_maker_form_1 (RetK [3] (FzK (encB (!kpI sg n)))) (argF [encI n, mCb sg]) S0 := by
  unfold mCb kpI
  by_cases h1 : n < 0
  · have h2 : ¬ (0 ≤ n) := by omega
    simp [AWb_seq, Z0m, Z0n, Z0j, Z0k, Z0r, Z0l, Z0p, Z0q, Z0o, Z21, Z20, Z22, Z23, Z3d, Z3e, Z3a, vIdx, Z4x, Z4w, Z4y, vApp, Z4u, Z3u, Z11, Z10, Z0z, Z0x, Z0w, Z0y, Z17, Z16, Z15, Z13, Z12, Z14, Z2c, Z2d, Z2a, Z2n, Z31, Z30, Z07, Z08, Z06, Z01, Z02, Z00, Z04, Z05, Z03, Z1z, Z1y, Z46, Z48, Z47, Z45, Z1n, Z1o, Z1m, Z3n, Z3k, Z3m, Z3l, Z3o, Z1l, Z29, Z32, Z3x, Z1i, Z1j, Z1k, Z3v, Z3w, Z1g, Z28, Z1h, Z3i, Z3f, Z3h, Z3g, Z3j, Z41, Z40, Z0t, Z0u, Z0v, Z0s, Z1f, Z4c, Z4b, Z4d, Z4a, Z49, ex, Z43, Z42, ev_t, ev_c, Z27, Z26, Z4e, Z4f, Z2m, Z2l, Z2f, Z2j, Z2k, Z2g, Z2h, Z2i, putc, exBslice, lfill, exField, exIdxV, exIdxP, exBox, exAlloc, Z3b, Z3c, exStore, exFieldA, Z34, Z33, Z39, Z38, exPick, exUn, exBeq, exMM, exSeq, seqGo, exExt, binV, intOp, subc, Z4s, Z4r, Z4p, Z4q, Z4n, Z4l, Z4m, Z4o, Z4i, Z4j, Z4g, Z4t, S0, encI, encB, c_net_maker_form_1, h1, h2, exNil]
    exact FzK_B _ _
  · have h2 : 0 ≤ n := by omega
    by_cases h3 : n < sg
    · have h4 : ¬ (sg ≤ n) := by omega
      simp [AWb_seq, Z0m, Z0n, Z0j, Z0k, Z0r, Z0l, Z0p, Z0q, Z0o, Z21, Z20, Z22, Z23, Z3d, Z3e, Z3a, vIdx, Z4x, Z4w, Z4y, vApp, Z4u, Z3u, Z11, Z10, Z0z, Z0x, Z0w, Z0y, Z17, Z16, Z15, Z13, Z12, Z14, Z2c, Z2d, Z2a, Z2n, Z31, Z30, Z07, Z08, Z06, Z01, Z02, Z00, Z04, Z05, Z03, Z1z, Z1y, Z46, Z48, Z47, Z45, Z1n, Z1o, Z1m, Z3n, Z3k, Z3m, Z3l, Z3o, Z1l, Z29, Z32, Z3x, Z1i, Z1j, Z1k, Z3v, Z3w, Z1g, Z28, Z1h, Z3i, Z3f, Z3h, Z3g, Z3j, Z41, Z40, Z0t, Z0u, Z0v, Z0s, Z1f, Z4c, Z4b, Z4d, Z4a, Z49, ex, Z43, Z42, ev_t, ev_c, Z27, Z26, Z4e, Z4f, Z2m, Z2l, Z2f, Z2j, Z2k, Z2g, Z2h, Z2i, putc, exBslice, lfill, exField, exIdxV, exIdxP, exBox, exAlloc, Z3b, Z3c, exStore, exFieldA, Z34, Z33, Z39, Z38, exPick, exUn, exBeq, exMM, exSeq, seqGo, exExt, binV, intOp, subc, Z4s, Z4r, Z4p, Z4q, Z4n, Z4l, Z4m, Z4o, Z4i, Z4j, Z4g, Z4t, S0, encI, encB, c_net_maker_form_1, h1, h2, h3, h4, exNil]
      exact FzK_B _ _
    · have h4 : sg ≤ n := by omega
      simp [AWb_seq, Z0m, Z0n, Z0j, Z0k, Z0r, Z0l, Z0p, Z0q, Z0o, Z21, Z20, Z22, Z23, Z3d, Z3e, Z3a, vIdx, Z4x, Z4w, Z4y, vApp, Z4u, Z3u, Z11, Z10, Z0z, Z0x, Z0w, Z0y, Z17, Z16, Z15, Z13, Z12, Z14, Z2c, Z2d, Z2a, Z2n, Z31, Z30, Z07, Z08, Z06, Z01, Z02, Z00, Z04, Z05, Z03, Z1z, Z1y, Z46, Z48, Z47, Z45, Z1n, Z1o, Z1m, Z3n, Z3k, Z3m, Z3l, Z3o, Z1l, Z29, Z32, Z3x, Z1i, Z1j, Z1k, Z3v, Z3w, Z1g, Z28, Z1h, Z3i, Z3f, Z3h, Z3g, Z3j, Z41, Z40, Z0t, Z0u, Z0v, Z0s, Z1f, Z4c, Z4b, Z4d, Z4a, Z49, ex, Z43, Z42, ev_t, ev_c, Z27, Z26, Z4e, Z4f, Z2m, Z2l, Z2f, Z2j, Z2k, Z2g, Z2h, Z2i, putc, exBslice, lfill, exField, exIdxV, exIdxP, exBox, exAlloc, Z3b, Z3c, exStore, exFieldA, Z34, Z33, Z39, Z38, exPick, exUn, exBeq, exMM, exSeq, seqGo, exExt, binV, intOp, subc, Z4s, Z4r, Z4p, Z4q, Z4n, Z4l, Z4m, Z4o, Z4i, Z4j, Z4g, Z4t, S0, encI, encB, c_net_maker_form_1, h1, h2, h3, h4, exNil]
      exact FzK_B _ _
def dG (sg : Int) (o : Bool) (st : Gs) (l : List Int) : List (Nat × Option Blk) := (4, vB o 1 (l.map encI)) :: (3, some (.arr 1 [.ptr 0 0 0])) :: mG sg true st 0 1 2
def DelOut (sg : Int) (o : Bool) (st : Gs) (l : List Int) (r : AV) (S' : St) : Prop :=
  ∃ xs : List Int, (r = if o = true then .own 4 0 (l.filter (kpI sg)).length else .sl true []) ∧ xs.take (l.filter (kpI sg)).length = l.filter (kpI sg) ∧ xs.length = l.length ∧ S' = ⟨10, gOf (dG sg o st xs)⟩
def dfI (sg : Int) (l : List Int) (i0 k : Nat) (s : List Int × Nat) : Prop :=
  s.2 = ((l.take (i0 + 1 + k)).filter (kpI sg)).length ∧ s.1.take s.2 = (l.take (i0 + 1 + k)).filter (kpI sg) ∧ s.1.drop (i0 + 1 + k) = l.drop (i0 + 1 + k) ∧ s.2 < i0 + 1 + k ∧ s.1.length = l.length
def dfA (f1 : FuncId) (i0 : Nat) (l : List Int) (k : Nat) (s : List Int × Nat) : List (Nat × AV) := [(0, .own 4 0 l.length), (1, .clo f1 [] [.ptr 3 0 0]), (5, encI s.2), (6, encI ((i0 + 1 + k : Nat) : Int))]
def dfG (sg : Int) (st : Gs) (_ : Nat) (s : List Int × Nat) : List (Nat × Option Blk) := dG sg true st s.1
theorem fz_mCb {g : Nat → Option Blk} {sg : Int} {v w : AV} (h0 : g 0 = some (.arr 4 [mCell sg v w])) (h3 : g 3 = some (.arr 1 [.ptr 0 0 0])) : Fz g (.ptr 3 0 0) (mCb sg) :=
  .box 3 0 1 _ _ h3 (.pre 0 4 [encI sg] [v, w, .sl true []] h0 (cl_cons (Z2r _) cl_nil))
theorem fz_vV {g : Nat → Option Blk} {o : Bool} {id : Nat} {l : List Int} (hg : g id = vB o 1 (l.map encI)) : Fz g (vV o id (l.map encI)) (encIs l) := vV_fz hg (Z19 l)
theorem idxF_none {X : Type} {p : X → Bool} {l : List X} (h : l.any p = false) : idxF p l = -1 := by simp [idxF, h]
theorem renClo {gF : Nat → Option Blk} {R : Nat → Nat → Prop} {f : FuncId} {i j : Nat} (h : R j i) : RenV gF R (.clo f [] [.ptr i 0 0]) (.clo f [] [.ptr j 0 0]) :=
  .clo f [] [.ptr i 0 0] [] [.ptr j 0 0] rfl rfl (fun k h1 => by simp at h1) (fun k h1 h2 => by simp at h1; subst h1; exact .ptr _ _ _ _ h)
theorem take_set_one {xs : List Int} {i : Nat} {v : Int} (h : i < xs.length) : (xs.set i v).take (i + 1) = xs.take i ++ [v] := by
  rw [List.take_add_one, List.take_set_of_le (Nat.le_refl i), List.getElem?_set_self h]; rfl
theorem delF_ok {P : Program} (hm : P.follows .mixedOrders = true) {f fi f1 : FuncId} (h : Is P f (c_slices_DeleteFunc_Sint_int_ fi) [4] 2) {sg : Int} (l : List Int) (hl : l.length ≤ 1000000) (o : Bool) (ho : o = true ∨ l = [])
    (hi : PureC P fi [encIs l, .clo f1 [] [mCb sg]] (encI (idxF (fun n => !kpI sg n) l))) (hf : ∀ n, PureC P f1 [encI n, mCb sg] (encB (!kpI sg n))) (st : Gs) :
    CallR P f [vV o 4 (l.map encI), .clo f1 [] [.ptr 3 0 0]] ⟨5, gOf (dG sg o st l)⟩ (DelOut sg o st l) := by
  refine h.callB hm rfl ?_
  have g0 : gOf (dG sg o st l) 0 = some (.arr 4 [mCell sg (vV true 1 (st.by_.map encIs)) (vV true 2 (st.fo.map encIs))]) := by simp [dG, mG, gOf]
  have g3 : gOf (dG sg o st l) 3 = some (.arr 1 [.ptr 0 0 0]) := by simp [dG, mG, gOf]
  have g4 : gOf (dG sg o st l) 4 = vB o 1 (l.map encI) := by simp [dG, mG, gOf]
  simp [AWb_seq, Z0m, Z0n, Z0j, Z0k, Z0r, Z0l, Z0p, Z0q, Z0o, Z21, Z20, Z22, Z23, Z3d, Z3e, Z3a, vIdx, Z4x, Z4w, Z4y, vApp, Z4u, Z3u, Z11, Z10, Z0z, Z0x, Z0w, Z0y, Z17, Z16, Z15, Z13, Z12, Z14, Z2c, Z2d, Z2a, Z2n, Z31, Z30, Z07, Z08, Z06, Z01, Z02, Z00, Z04, Z05, Z03, Z1z, Z1y, Z46, Z48, Z47, Z45, Z1n, Z1o, Z1m, Z3n, Z3k, Z3m, Z3l, Z3o, Z1l, Z29, Z32, Z3x, Z1i, Z1j, Z1k, Z3v, Z3w, Z1g, Z28, Z1h, Z3i, Z3f, Z3h, Z3g, Z3j, Z41, Z40, Z0t, Z0u, Z0v, Z0s, Z1f, Z4c, Z4b, Z4d, Z4a, Z49, ex, Z43, Z42, ev_t, ev_c, Z27, Z26, Z4e, Z4f, Z2m, Z2l, Z2f, Z2j, Z2k, Z2g, Z2h, Z2i, putc, exBslice, lfill, exField, exIdxV, exIdxP, exBox, exAlloc, Z3b, Z3c, exStore, exFieldA, Z34, Z33, Z39, Z38, exPick, exUn, exBeq, exMM, exSeq, seqGo, exExt, binV, intOp, subc, Z4s, Z4r, Z4p, Z4q, Z4n, Z4l, Z4m, Z4o, Z4i, Z4j, Z4g, Z4t, S0, encI, encB, c_slices_DeleteFunc_Sint_int_]
  refine CallR.looks hi (FzL.cons (fz_vV g4) (FzL.cons (.clo0 (FzL.cons (fz_mCb g0 g3) FzL.nil)) FzL.nil)) (.v _) ?_
  cases hany : l.any (fun n => !kpI sg n) with
  | false =>
    have hfl : l.filter (kpI sg) = l := by
      rw [List.filter_eq_self]
      intro x hx
      have := List.any_eq_false.mp hany x hx
      simpa using this
    rw [idxF_none hany]
    simp [AWb_seq, Z0m, Z0n, Z0j, Z0k, Z0r, Z0l, Z0p, Z0q, Z0o, Z21, Z20, Z22, Z23, Z3d, Z3e, Z3a, vIdx, Z4x, Z4w, Z4y, vApp, Z4u, Z3u, Z11, Z10, Z0z, Z0x, Z0w, Z0y, Z17, Z16, Z15, Z13, Z12, Z14, Z2c, Z2d, Z2a, Z2n, Z31, Z30, Z07, Z08, Z06, Z01, Z02, Z00, Z04, Z05, Z03, Z1z, Z1y, Z46, Z48, Z47, Z45, Z1n, Z1o, Z1m, Z3n, Z3k, Z3m, Z3l, Z3o, Z1l, Z29, Z32, Z3x, Z1i, Z1j, Z1k, Z3v, Z3w, Z1g, Z28, Z1h, Z3i, Z3f, Z3h, Z3g, Z3j, Z41, Z40, Z0t, Z0u, Z0v, Z0s, Z1f, Z4c, Z4b, Z4d, Z4a, Z49, ex, Z43, Z42, ev_t, ev_c, Z27, Z26, Z4e, Z4f, Z2m, Z2l, Z2f, Z2j, Z2k, Z2g, Z2h, Z2i, putc, exBslice, lfill, exField, exIdxV, exIdxP, exBox, exAlloc, Z3b, Z3c, exStore, exFieldA, Z34, Z33, Z39, Z38, exPick, exUn, exBeq, exMM, exSeq, seqGo, exExt, binV, intOp, subc, Z4s, Z4r, Z4p, Z4q, Z4n, Z4l, Z4m, Z4o, Z4i, Z4j, Z4g, Z4t, S0, encI, encB]
    refine ⟨afOf [(4, vV o 4 (l.map encI))], ⟨10, gOf (dG sg o st l)⟩, Abs.of [(0, 0), (1, 1), (2, 2), (3, 3), (4, 4)] [] (by omega) ⟨by simp, by simp⟩ ?_ ?_, ?_⟩
    · simp [RenL_snoc, RenL.cl, RenV.cl, Z2r, Z2o, Z2s, Z2t, Z2p, Z2v, Z2u, Z2q, Z2w, Z2x, Z1d, Z1c, Z1b, Z19, Z18, Z1a, Z1e, Z52, Z4v, Z4z, Z3y, Z51, Z50, Z3z, Z1p, Z1q, Z1x, Z1v, Z1w, Z1u, Z1t, Z1s, Z1r, Z44, Z43, Z42, Z4e, Z4f, Z22, Z23, Z3d, Z3e, Z27, Z26, vV_t, vV_f, vB_t, vB_f, encI, encB, dG, mG, mCell]
    · simp [RenL_snoc, RenL.cl, RenV.cl, Z2r, Z2o, Z2s, Z2t, Z2p, Z2v, Z2u, Z2q, Z2w, Z2x, Z1d, Z1c, Z1b, Z19, Z18, Z1a, Z1e, Z52, Z4v, Z4z, Z3y, Z51, Z50, Z3z, Z1p, Z1q, Z1x, Z1v, Z1w, Z1u, Z1t, Z1s, Z1r, Z44, Z43, Z42, Z4e, Z4f, Z22, Z23, Z3d, Z3e, Z27, Z26, vV_t, vV_f, vB_t, vB_f, encI, encB]
    · refine ⟨l, ?_, ?_, rfl, rfl⟩
      · rw [hfl]
        rcases ho with rfl | rfl
        · simp [afOf, vV_t]
        · cases o <;> simp [afOf, vV_t, vV_f]
      · rw [hfl, List.take_length]
  | true =>
    have ho' : o = true := by
      rcases ho with h | h
      · exact h
      · rw [h] at hany; simp at hany
    subst ho'
    have hix : idxF (fun n => !kpI sg n) l = (l.findIdx (fun n => !kpI sg n) : Nat) := by simp only [idxF]; rw [if_pos hany]
    have hfi : l.findIdx (fun n => !kpI sg n) < l.length := List.findIdx_lt_length.mpr (by simpa using hany)
    have hlow : ∀ i, i < l.findIdx (fun n => !kpI sg n) → ∀ (hi : i < l.length), kpI sg l[i] = true := fun i h1 h2 => by
      have := List.not_of_lt_findIdx h1
      simpa using this
    have hat : kpI sg (l[l.findIdx (fun n => !kpI sg n)]) = false := by
      have := List.findIdx_getElem (p := fun n => !kpI sg n) (xs := l) (w := hfi)
      simpa using this
    rw [hix]
    generalize l.findIdx (fun n => !kpI sg n) = i0 at *
    have hne : ¬ ((i0 : Int) = -1) := by omega
    have hne2 : ((i0 : Int) == -1) = false := by simp
    have hw : IntKind.i64.wrap ((i0 : Int) + 1) = (i0 : Int) + 1 := wrap_in _ (by omega)
    have htf : (l.take i0).filter (kpI sg) = l.take i0 := by
      rw [List.filter_eq_self]
      intro x hx
      obtain ⟨i, hi1, rfl⟩ := List.mem_iff_getElem.mp hx
      rw [List.length_take] at hi1
      rw [List.getElem_take]
      exact hlow i (by omega) (by omega)
    have hts : l.take (i0 + 1) = l.take i0 ++ [l[i0]] := by rw [List.take_add_one, List.getElem?_eq_getElem hfi]; rfl
    simp [AWb_seq, Z0m, Z0n, Z0j, Z0k, Z0r, Z0l, Z0p, Z0q, Z0o, Z21, Z20, Z22, Z23, Z3d, Z3e, Z3a, vIdx, Z4x, Z4w, Z4y, vApp, Z4u, Z3u, Z11, Z10, Z0z, Z0x, Z0w, Z0y, Z17, Z16, Z15, Z13, Z12, Z14, Z2c, Z2d, Z2a, Z2n, Z31, Z30, Z07, Z08, Z06, Z01, Z02, Z00, Z04, Z05, Z03, Z1z, Z1y, Z46, Z48, Z47, Z45, Z1n, Z1o, Z1m, Z3n, Z3k, Z3m, Z3l, Z3o, Z1l, Z29, Z32, Z3x, Z1i, Z1j, Z1k, Z3v, Z3w, Z1g, Z28, Z1h, Z3i, Z3f, Z3h, Z3g, Z3j, Z41, Z40, Z0t, Z0u, Z0v, Z0s, Z1f, Z4c, Z4b, Z4d, Z4a, Z49, ex, Z43, Z42, ev_t, ev_c, Z27, Z26, Z4e, Z4f, Z2m, Z2l, Z2f, Z2j, Z2k, Z2g, Z2h, Z2i, putc, exBslice, lfill, exField, exIdxV, exIdxP, exBox, exAlloc, Z3b, Z3c, exStore, exFieldA, Z34, Z33, Z39, Z38, exPick, exUn, exBeq, exMM, exSeq, seqGo, exExt, binV, intOp, subc, Z4s, Z4r, Z4p, Z4q, Z4n, Z4l, Z4m, Z4o, Z4i, Z4j, Z4g, Z4t, S0, encI, encB, hne, hne2, hw, vV_t, c_df_in]
    refine AWb_for (l.length - (i0 + 1)) (dfI sg l i0) (dfA f1 i0 l) 5 (dfG sg st) (l, i0) ?_ ?_ ?_
    · refine ⟨?_, ?_, rfl, by simp, rfl⟩
      · simp only [Nat.add_zero]
        rw [hts, List.filter_append, htf]
        simp [hat]; omega
      · simp only [Nat.add_zero]
        rw [hts, List.filter_append, htf]
        simp [hat]
    · refine Abs.of [(0, 0), (1, 1), (2, 2), (3, 3), (4, 4)] [] (by omega) ⟨by simp, by simp⟩ ?_ ?_
      · simp [RenL_snoc, RenL.cl, RenV.cl, Z2r, Z2o, Z2s, Z2t, Z2p, Z2v, Z2u, Z2q, Z2w, Z2x, Z1d, Z1c, Z1b, Z19, Z18, Z1a, Z1e, Z52, Z4v, Z4z, Z3y, Z51, Z50, Z3z, Z1p, Z1q, Z1x, Z1v, Z1w, Z1u, Z1t, Z1s, Z1r, Z44, Z43, Z42, Z4e, Z4f, Z22, Z23, Z3d, Z3e, Z27, Z26, vV_t, vV_f, vB_t, vB_f, encI, encB, dfG, dG, mG, mCell]
      · simp [RenL_snoc, RenL.cl, RenV.cl, Z2r, Z2o, Z2s, Z2t, Z2p, Z2v, Z2u, Z2q, Z2w, Z2x, Z1d, Z1c, Z1b, Z19, Z18, Z1a, Z1e, Z52, Z4v, Z4z, Z3y, Z51, Z50, Z3z, Z1p, Z1q, Z1x, Z1v, Z1w, Z1u, Z1t, Z1s, Z1r, Z44, Z43, Z42, Z4e, Z4f, Z22, Z23, Z3d, Z3e, Z27, Z26, vV_t, vV_f, vB_t, vB_f, encI, encB, dfA]
        exact renClo (.inl (by simp))
    · rintro k ⟨xs, i⟩ hk ⟨e1, e2, e3, e4, e5⟩
      simp only at e1 e2 e3 e4 e5
      have g0 : gOf (dfG sg st k (xs, i)) 0 = some (.arr 4 [mCell sg (vV true 1 (st.by_.map encIs)) (vV true 2 (st.fo.map encIs))]) := by simp [dfG, dG, mG, gOf]
      have g3 : gOf (dfG sg st k (xs, i)) 3 = some (.arr 1 [.ptr 0 0 0]) := by simp [dfG, dG, mG, gOf]
      have g4 : gOf (dfG sg st k (xs, i)) 4 = some (.arr 1 (xs.map encI)) := by simp [dfG, dG, mG, gOf, vB_t]
      by_cases hlt : i0 + 1 + k < l.length
      · have hltI : (i0 : Int) + 1 + k < (l.length : Int) := by omega
        have hj0 : (0 : Int) ≤ (i0 : Int) + 1 + k := by omega
        have hjn : ((i0 : Int) + 1 + k).toNat = i0 + 1 + k := by omega
        have hxl : i0 + 1 + k < xs.length := by omega
        have hxk : xs[i0 + 1 + k]? = some l[i0 + 1 + k] := by
          have := congrArg (fun y => y[0]?) e3
          simp only [List.getElem?_drop, Nat.add_zero] at this
          rw [this, List.getElem?_eq_getElem hlt]
        have hxk2 : xs[i0 + 1 + k] = l[i0 + 1 + k] := by
          have := List.getElem?_eq_getElem hxl
          rw [hxk] at this; exact (Option.some.inj this).symm
        have htk : l.take (i0 + 1 + (k + 1)) = l.take (i0 + 1 + k) ++ [l[i0 + 1 + k]] := by
          rw [show i0 + 1 + (k + 1) = i0 + 1 + k + 1 by omega, List.take_add_one, List.getElem?_eq_getElem hlt]; rfl
        have hx := hf l[i0 + 1 + k]
        generalize hgv : l[i0 + 1 + k] = v at *
        cases hkv : kpI sg v with
        | false =>
          rw [hkv] at hx
          simp [AWb_seq, Z0m, Z0n, Z0j, Z0k, Z0r, Z0l, Z0p, Z0q, Z0o, Z21, Z20, Z22, Z23, Z3d, Z3e, Z3a, vIdx, Z4x, Z4w, Z4y, vApp, Z4u, Z3u, Z11, Z10, Z0z, Z0x, Z0w, Z0y, Z17, Z16, Z15, Z13, Z12, Z14, Z2c, Z2d, Z2a, Z2n, Z31, Z30, Z07, Z08, Z06, Z01, Z02, Z00, Z04, Z05, Z03, Z1z, Z1y, Z46, Z48, Z47, Z45, Z1n, Z1o, Z1m, Z3n, Z3k, Z3m, Z3l, Z3o, Z1l, Z29, Z32, Z3x, Z1i, Z1j, Z1k, Z3v, Z3w, Z1g, Z28, Z1h, Z3i, Z3f, Z3h, Z3g, Z3j, Z41, Z40, Z0t, Z0u, Z0v, Z0s, Z1f, Z4c, Z4b, Z4d, Z4a, Z49, ex, Z43, Z42, ev_t, ev_c, Z27, Z26, Z4e, Z4f, Z2m, Z2l, Z2f, Z2j, Z2k, Z2g, Z2h, Z2i, putc, exBslice, lfill, exField, exIdxV, exIdxP, exBox, exAlloc, Z3b, Z3c, exStore, exFieldA, Z34, Z33, Z39, Z38, exPick, exUn, exBeq, exMM, exSeq, seqGo, exExt, binV, intOp, subc, Z4s, Z4r, Z4p, Z4q, Z4n, Z4l, Z4m, Z4o, Z4i, Z4j, Z4g, Z4t, S0, encI, encB, dfA, hltI, hj0, hjn, hxl, hxk, hxk2, e5, g4]
          refine CallR.looks hx (FzL.cons (.closed _ (Z2r _)) (FzL.cons (fz_mCb g0 g3) FzL.nil)) (.v _) ?_
          simp [AWb_seq, Z0m, Z0n, Z0j, Z0k, Z0r, Z0l, Z0p, Z0q, Z0o, Z21, Z20, Z22, Z23, Z3d, Z3e, Z3a, vIdx, Z4x, Z4w, Z4y, vApp, Z4u, Z3u, Z11, Z10, Z0z, Z0x, Z0w, Z0y, Z17, Z16, Z15, Z13, Z12, Z14, Z2c, Z2d, Z2a, Z2n, Z31, Z30, Z07, Z08, Z06, Z01, Z02, Z00, Z04, Z05, Z03, Z1z, Z1y, Z46, Z48, Z47, Z45, Z1n, Z1o, Z1m, Z3n, Z3k, Z3m, Z3l, Z3o, Z1l, Z29, Z32, Z3x, Z1i, Z1j, Z1k, Z3v, Z3w, Z1g, Z28, Z1h, Z3i, Z3f, Z3h, Z3g, Z3j, Z41, Z40, Z0t, Z0u, Z0v, Z0s, Z1f, Z4c, Z4b, Z4d, Z4a, Z49, ex, Z43, Z42, ev_t, ev_c, Z27, Z26, Z4e, Z4f, Z2m, Z2l, Z2f, Z2j, Z2k, Z2g, Z2h, Z2i, putc, exBslice, lfill, exField, exIdxV, exIdxP, exBox, exAlloc, Z3b, Z3c, exStore, exFieldA, Z34, Z33, Z39, Z38, exPick, exUn, exBeq, exMM, exSeq, seqGo, exExt, binV, intOp, subc, Z4s, Z4r, Z4p, Z4q, Z4n, Z4l, Z4m, Z4o, Z4i, Z4j, Z4g, Z4t, S0, encI, encB]
          rw [wrap_in _ (by omega)]
          refine ⟨by omega, (xs, i), ⟨?_, ?_, ?_, by simp only; omega, e5⟩, Abs.of [(0, 0), (1, 1), (2, 2), (3, 3), (4, 4)] [] (by omega) ⟨by simp, by simp⟩ ?_ ?_⟩
          · simp only
            rw [htk, List.filter_append]; simp [hkv, e1]
          · simp only
            rw [htk, List.filter_append]; simp [hkv, e2]
          · simp only
            have := congrArg (fun y => y.drop 1) e3
            simpa [List.drop_drop, Nat.add_assoc] using this
          · simp [RenL_snoc, RenL.cl, RenV.cl, Z2r, Z2o, Z2s, Z2t, Z2p, Z2v, Z2u, Z2q, Z2w, Z2x, Z1d, Z1c, Z1b, Z19, Z18, Z1a, Z1e, Z52, Z4v, Z4z, Z3y, Z51, Z50, Z3z, Z1p, Z1q, Z1x, Z1v, Z1w, Z1u, Z1t, Z1s, Z1r, Z44, Z43, Z42, Z4e, Z4f, Z22, Z23, Z3d, Z3e, Z27, Z26, vV_t, vV_f, vB_t, vB_f, encI, encB, dfG, dG, mG, mCell]
          · simp [RenL_snoc, RenL.cl, RenV.cl, Z2r, Z2o, Z2s, Z2t, Z2p, Z2v, Z2u, Z2q, Z2w, Z2x, Z1d, Z1c, Z1b, Z19, Z18, Z1a, Z1e, Z52, Z4v, Z4z, Z3y, Z51, Z50, Z3z, Z1p, Z1q, Z1x, Z1v, Z1w, Z1u, Z1t, Z1s, Z1r, Z44, Z43, Z42, Z4e, Z4f, Z22, Z23, Z3d, Z3e, Z27, Z26, vV_t, vV_f, vB_t, vB_f, encI, encB, dfA]
            exact ⟨renClo (.inl (by simp)), by omega⟩
        | true =>
          rw [hkv] at hx
          have hi0 : (0 : Int) ≤ (i : Int) := by omega
          have hiL : i < l.length := by omega
          have hiX : i < xs.length := by omega
          have hwi : IntKind.i64.wrap ((i : Int) + 1) = (i : Int) + 1 := wrap_in _ (by omega)
          have hwj : IntKind.i64.wrap ((i0 : Int) + 1 + k + 1) = (i0 : Int) + 1 + k + 1 := wrap_in _ (by omega)
          simp [AWb_seq, Z0m, Z0n, Z0j, Z0k, Z0r, Z0l, Z0p, Z0q, Z0o, Z21, Z20, Z22, Z23, Z3d, Z3e, Z3a, vIdx, Z4x, Z4w, Z4y, vApp, Z4u, Z3u, Z11, Z10, Z0z, Z0x, Z0w, Z0y, Z17, Z16, Z15, Z13, Z12, Z14, Z2c, Z2d, Z2a, Z2n, Z31, Z30, Z07, Z08, Z06, Z01, Z02, Z00, Z04, Z05, Z03, Z1z, Z1y, Z46, Z48, Z47, Z45, Z1n, Z1o, Z1m, Z3n, Z3k, Z3m, Z3l, Z3o, Z1l, Z29, Z32, Z3x, Z1i, Z1j, Z1k, Z3v, Z3w, Z1g, Z28, Z1h, Z3i, Z3f, Z3h, Z3g, Z3j, Z41, Z40, Z0t, Z0u, Z0v, Z0s, Z1f, Z4c, Z4b, Z4d, Z4a, Z49, ex, Z43, Z42, ev_t, ev_c, Z27, Z26, Z4e, Z4f, Z2m, Z2l, Z2f, Z2j, Z2k, Z2g, Z2h, Z2i, putc, exBslice, lfill, exField, exIdxV, exIdxP, exBox, exAlloc, Z3b, Z3c, exStore, exFieldA, Z34, Z33, Z39, Z38, exPick, exUn, exBeq, exMM, exSeq, seqGo, exExt, binV, intOp, subc, Z4s, Z4r, Z4p, Z4q, Z4n, Z4l, Z4m, Z4o, Z4i, Z4j, Z4g, Z4t, S0, encI, encB, dfA, hltI, hj0, hjn, hxl, hxk, hxk2, e5, g4]
          refine CallR.looks hx (FzL.cons (.closed _ (Z2r _)) (FzL.cons (fz_mCb g0 g3) FzL.nil)) (.v _) ?_
          simp [AWb_seq, Z0m, Z0n, Z0j, Z0k, Z0r, Z0l, Z0p, Z0q, Z0o, Z21, Z20, Z22, Z23, Z3d, Z3e, Z3a, vIdx, Z4x, Z4w, Z4y, vApp, Z4u, Z3u, Z11, Z10, Z0z, Z0x, Z0w, Z0y, Z17, Z16, Z15, Z13, Z12, Z14, Z2c, Z2d, Z2a, Z2n, Z31, Z30, Z07, Z08, Z06, Z01, Z02, Z00, Z04, Z05, Z03, Z1z, Z1y, Z46, Z48, Z47, Z45, Z1n, Z1o, Z1m, Z3n, Z3k, Z3m, Z3l, Z3o, Z1l, Z29, Z32, Z3x, Z1i, Z1j, Z1k, Z3v, Z3w, Z1g, Z28, Z1h, Z3i, Z3f, Z3h, Z3g, Z3j, Z41, Z40, Z0t, Z0u, Z0v, Z0s, Z1f, Z4c, Z4b, Z4d, Z4a, Z49, ex, Z43, Z42, ev_t, ev_c, Z27, Z26, Z4e, Z4f, Z2m, Z2l, Z2f, Z2j, Z2k, Z2g, Z2h, Z2i, putc, exBslice, lfill, exField, exIdxV, exIdxP, exBox, exAlloc, Z3b, Z3c, exStore, exFieldA, Z34, Z33, Z39, Z38, exPick, exUn, exBeq, exMM, exSeq, seqGo, exExt, binV, intOp, subc, Z4s, Z4r, Z4p, Z4q, Z4n, Z4l, Z4m, Z4o, Z4i, Z4j, Z4g, Z4t, S0, encI, encB, g4, hiL, hiX, e5, hwi, hwj]
          refine ⟨by omega, (xs.set i v, i + 1), ⟨?_, ?_, ?_, by simp only; omega, by simp [e5]⟩, Abs.of [(0, 0), (1, 1), (2, 2), (3, 3), (4, 4)] [] (by omega) ⟨by simp, by simp⟩ ?_ ?_⟩
          · simp only
            rw [htk, List.filter_append]; simp [hkv, e1]
          · simp only
            rw [htk, List.filter_append, take_set_one hiX, e2]; simp [hkv]
          · simp only
            have := congrArg (fun y => y.drop 1) e3
            rw [List.drop_set_of_lt (by omega)]
            simpa [List.drop_drop, Nat.add_assoc] using this
          · simp [RenL_snoc, RenL.cl, RenV.cl, Z2r, Z2o, Z2s, Z2t, Z2p, Z2v, Z2u, Z2q, Z2w, Z2x, Z1d, Z1c, Z1b, Z19, Z18, Z1a, Z1e, Z52, Z4v, Z4z, Z3y, Z51, Z50, Z3z, Z1p, Z1q, Z1x, Z1v, Z1w, Z1u, Z1t, Z1s, Z1r, Z44, Z43, Z42, Z4e, Z4f, Z22, Z23, Z3d, Z3e, Z27, Z26, vV_t, vV_f, vB_t, vB_f, encI, encB, dfG, dG, mG, mCell]
            rw [show AV.v (.int .i64 v) = encI v from rfl, ← List.map_set]
            exact .cl (Z19 _)
          · simp [RenL_snoc, RenL.cl, RenV.cl, Z2r, Z2o, Z2s, Z2t, Z2p, Z2v, Z2u, Z2q, Z2w, Z2x, Z1d, Z1c, Z1b, Z19, Z18, Z1a, Z1e, Z52, Z4v, Z4z, Z3y, Z51, Z50, Z3z, Z1p, Z1q, Z1x, Z1v, Z1w, Z1u, Z1t, Z1s, Z1r, Z44, Z43, Z42, Z4e, Z4f, Z22, Z23, Z3d, Z3e, Z27, Z26, vV_t, vV_f, vB_t, vB_f, encI, encB, dfA]
            exact ⟨renClo (.inl (by simp)), by omega⟩
      · have hke : k = l.length - (i0 + 1) := by omega
        have hj : i0 + 1 + k = l.length := by omega
        have hltI : ¬ ((i0 : Int) + 1 + k < (l.length : Int)) := by omega
        have hiL : i ≤ l.length := by omega
        have hiX : i + (l.length - i) ≤ xs.length := by omega
        have hXl : l.length ≤ xs.length := by omega
        have hdr : (xs.map encI).drop l.length = [] := by rw [List.drop_eq_nil_iff, List.length_map]; omega
        simp [AWb_seq, Z0m, Z0n, Z0j, Z0k, Z0r, Z0l, Z0p, Z0q, Z0o, Z21, Z20, Z22, Z23, Z3d, Z3e, Z3a, vIdx, Z4x, Z4w, Z4y, vApp, Z4u, Z3u, Z11, Z10, Z0z, Z0x, Z0w, Z0y, Z17, Z16, Z15, Z13, Z12, Z14, Z2c, Z2d, Z2a, Z2n, Z31, Z30, Z07, Z08, Z06, Z01, Z02, Z00, Z04, Z05, Z03, Z1z, Z1y, Z46, Z48, Z47, Z45, Z1n, Z1o, Z1m, Z3n, Z3k, Z3m, Z3l, Z3o, Z1l, Z29, Z32, Z3x, Z1i, Z1j, Z1k, Z3v, Z3w, Z1g, Z28, Z1h, Z3i, Z3f, Z3h, Z3g, Z3j, Z41, Z40, Z0t, Z0u, Z0v, Z0s, Z1f, Z4c, Z4b, Z4d, Z4a, Z49, ex, Z43, Z42, ev_t, ev_c, Z27, Z26, Z4e, Z4f, Z2m, Z2l, Z2f, Z2j, Z2k, Z2g, Z2h, Z2i, putc, exBslice, lfill, exField, exIdxV, exIdxP, exBox, exAlloc, Z3b, Z3c, exStore, exFieldA, Z34, Z33, Z39, Z38, exPick, exUn, exBeq, exMM, exSeq, seqGo, exExt, binV, intOp, subc, Z4s, Z4r, Z4p, Z4q, Z4n, Z4l, Z4m, Z4o, Z4i, Z4j, Z4g, Z4t, S0, encI, encB, dfA, hltI, g4, exSlc, bnd, exClr, hiL, hiX, hXl, hdr]
        rw [hj, List.take_length] at e1 e2
        refine ⟨afOf [(4, .own 4 0 i)], ⟨10, gOf (dG sg true st (xs.take i ++ List.replicate (l.length - i) 0))⟩, Abs.of [(0, 0), (1, 1), (2, 2), (3, 3), (4, 4)] [] (by omega) ⟨by simp, by simp⟩ ?_ ?_, ?_⟩
        · simp [RenL_snoc, RenL.cl, RenV.cl, Z2r, Z2o, Z2s, Z2t, Z2p, Z2v, Z2u, Z2q, Z2w, Z2x, Z1d, Z1c, Z1b, Z19, Z18, Z1a, Z1e, Z52, Z4v, Z4z, Z3y, Z51, Z50, Z3z, Z1p, Z1q, Z1x, Z1v, Z1w, Z1u, Z1t, Z1s, Z1r, Z44, Z43, Z42, Z4e, Z4f, Z22, Z23, Z3d, Z3e, Z27, Z26, vV_t, vV_f, vB_t, vB_f, encI, encB, dfG, dG, mG, mCell]
          rw [show (List.take i (List.map encI xs) ++ List.replicate (l.length - i) (AV.v (.int .i64 0))) = (xs.take i ++ List.replicate (l.length - i) 0).map encI by simp [encI]]
          exact .cl (Z19 _)
        · simp [RenL_snoc, RenL.cl, RenV.cl, Z2r, Z2o, Z2s, Z2t, Z2p, Z2v, Z2u, Z2q, Z2w, Z2x, Z1d, Z1c, Z1b, Z19, Z18, Z1a, Z1e, Z52, Z4v, Z4z, Z3y, Z51, Z50, Z3z, Z1p, Z1q, Z1x, Z1v, Z1w, Z1u, Z1t, Z1s, Z1r, Z44, Z43, Z42, Z4e, Z4f, Z22, Z23, Z3d, Z3e, Z27, Z26, vV_t, vV_f, vB_t, vB_f, encI, encB]
        · refine ⟨xs.take i ++ List.replicate (l.length - i) 0, ?_, ?_, ?_, rfl⟩
          · rw [← e1]; simp [afOf]
          · rw [← e1, List.take_append_of_le_length (by rw [List.length_take]; omega), List.take_take, Nat.min_self]; exact e2
          · rw [List.length_append, List.length_take, List.length_replicate]; omega
end Go.Rf

