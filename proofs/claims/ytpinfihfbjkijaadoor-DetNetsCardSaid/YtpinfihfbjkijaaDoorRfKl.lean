import Derived.Test.YtpinfihfbjkijaaDoorRfCell
import Derived.Test.YtpinfihfbjkijaaDoorRfRun
/- Own work: slices.Clone, of whatever elements: a list of the call's own. -/
set_option linter.unusedVariables false
set_option linter.unusedSimpArgs false
namespace Go.Rf
open Go.RowKit

theorem CallR.bump {P : Program} {f : FuncId} {args : List AV} {S : St} {K : AV → St → Prop} (h : CallR P f args S fun r S' => ∃ m, K r ⟨S'.n + m, S'.g⟩) : CallR P f args S K := by
  refine ⟨h.1, fun E w vals hG hS hv => (h.2 E w vals hG hS hv).mono ?_⟩
  rintro e w' ⟨v, r, S', E', rfl, ⟨m, hk⟩, hS', hr, hev⟩
  refine ⟨v, r, ⟨S'.n + m, S'.g⟩, E', rfl, hk, hS'.reserve m, hr, ?_⟩
  exact ⟨⟨hev.evo.os, hev.evo.tape, hev.evo.output, hev.evo.size, hev.evo.keep, fun id l k hk hl => hev.evo.grow id l k hk hl, hev.evo.le, hev.evo.hsub⟩, Nat.le_trans hev.nle (Nat.le_add_right _ _), hev.low⟩
def c_slices_Clone (es by_ : Nat) (z : AV) : AC :=
  (.seq (.reg none [
   ⟨(some 2), .mv (.c (.sl true [])), none, none⟩])
  (.seq (.seq (.reg none [
   ⟨(some 3), .mv (.t 0), none, none⟩,
   ⟨(some 4), .nilq true false (.t 3), none, none⟩])
  (.cond (.t 4) (.seq (.reg none [
    ⟨(some 2), .mv (.c (.sl true [])), none, none⟩])
   .ret) .skip))
  (.seq (.reg none [
   ⟨(some 5), .bslice es 0 z [], none, none⟩,
   ⟨(some 6), .mv (.t 0), none, none⟩,
   ⟨(some 7), .app es by_ (.t 5) (.t 6), none, none⟩,
   ⟨(some 2), .mv (.t 7), none, none⟩])
  .ret)))
/-- The same, but for the test on nil. -/
def c_cloneOv (es by_ : Nat) (z : AV) : AC :=
  (.seq (.reg none [
   ⟨(some 2), .mv (.c (.sl true [])), none, none⟩])
  (.seq (.reg none [
   ⟨(some 3), .mv (.t 0), none, none⟩,
   ⟨(some 4), .mv (.c (.v (.bool false))), none, none⟩])
  (.seq (.reg none [
   ⟨(some 5), .bslice es 0 z [], none, none⟩,
   ⟨(some 6), .mv (.t 0), none, none⟩,
   ⟨(some 7), .app es by_ (.t 5) (.t 6), none, none⟩,
   ⟨(some 2), .mv (.t 7), none, none⟩])
  .ret)))
theorem opR_none {P : Program} {base : Nat} {os : List AOper} {i : Nat} {K : AF → St → Prop} {a : AF} {d : Option Nat} {op : AOp} {S : St} : opR P base os i K a d op S none = nilG op a fun v => RG P base os (i + 1) K (a.put d v) S := by simp only [opR]
theorem exNilq_cons (neg t : Bool) (x : AV) (xs : List AV) : exNilq true neg (.sl t (x :: xs)) = some (.v (.bool neg)) := by simp only [exNilq]
theorem exNilq_nil (neg t : Bool) : exNilq true neg (.sl t []) = none := by simp only [exNilq]
theorem exNilq_own (neg : Bool) (id off n : Nat) : exNilq true neg (.own id off (n + 1)) = some (.v (.bool neg)) := by simp only [exNilq]
theorem exNilq_own0 (neg : Bool) (id off : Nat) : exNilq true neg (.own id off 0) = none := by simp only [exNilq]
theorem lstE_own0 {es id off : Nat} {bs : List Blk} {ys : List AV} (h : lstE es bs (.own id off 0) = some ys) : ys = [] := by
  simp only [lstE] at h
  split at h
  · split at h
    · simp at h; exact h
    · cases h
  · cases h
theorem exBslice_nil (es : Nat) (z : AV) : exBslice es 0 z [] = some (.sl true []) := by simp [exBslice, lfill]
theorem Clone_by {P : Program} (hm : P.follows .mixedOrders = true) {f : FuncId} {es by_ : Nat} {z : AV} (h : Is P f (c_slices_Clone es by_ z) [2] 1) : ByC P f (c_cloneOv es by_ z) [.t 2] 1 := by
  intro args S K hn hb
  obtain ⟨x, rfl⟩ : ∃ x, args = [x] := by
    match args, hn with
    | [x], _ => exact ⟨x, rfl⟩
  refine CallR.bump (h.callR hm rfl ?_)
  have hb1 : AW P (c_cloneOv es by_ z) (RetK [2] fun r S' => ∃ m, K r ⟨S'.n + m, S'.g⟩) (argF [x]) S := by
    refine AW_mono _ (fun e a S' h => ?_) hb
    cases e <;> simp only [RetC, RetK] at h ⊢
    all_goals
      obtain ⟨xs, h1, h2⟩ := h
      simp [evC, RV.ev] at h1
      subst h1
      simp only [Z4q]
      exact ⟨0, h2⟩
  have key : ∀ y : AV, (∀ n nid v S', (exApp es by_ (.sl true []) y).run ⟨n, S.g⟩ nid = some (v, S') → v = .sl true [] ∧ S' = ⟨n, S.g⟩) → AW P (c_cloneOv es by_ z) (RetC [.t 2] K) (argF [y]) S → ∃ m, K (.sl true []) ⟨S.n + 4 + m, S.g⟩ := by
    intro y hy h
    simp [Z0j, Z0e, Z0f, Z0b, Z0c, Z0k, Z0d, Z0h, Z0i, Z3a, Z39, Z08, Z0a, Z07, Z01, Z03, Z00, Z05, Z06, Z04, Z26, Z25, Z4q, Z4s, Z4r, Z4p, Z1u, Z1v, Z1t, Z40, Z3x, Z3z, Z3y, Z41, Z1s, Z2j, Z3d, Z4f, Z1k, Z1l, Z1m, Z4d, Z4e, Z1i, Z2i, Z1j, Z3v, Z3s, Z3u, Z3t, Z3w, Z4l, Z4k, Z0v, Z0w, Z0x, Z0u, Z1h, Z4w, Z4v, Z4x, Z4u, Z4t, ex, Z4n, Z4m, ev_t, ev_c, Z2h, Z2g, Z4y, Z4z, Z2x, Z2w, Z2q, Z2u, Z2v, Z2r, Z2s, Z2t, putc, exBslice, lfill, exField, exIdxV, exIdxP, exBox, exAlloc, exLoad, exStore, exFieldA, exIdxA, exLen, exPick, exUn, exBeq, exMM, exSeq, seqGo, exExt, binV, intOp, subc, AV.solid, S0, encI, encB, c_cloneOv, exBslice_nil] at h
    generalize hq : (exApp es by_ (.sl true []) y).run _ _ = q at h
    cases q with
    | none => simp [opR_none, nilG] at h
    | some p =>
      obtain ⟨v, S'⟩ := p
      obtain ⟨rfl, rfl⟩ := hy _ _ _ _ hq
      simp [Z0j, Z0e, Z0f, Z0b, Z0c, Z0k, Z0d, Z0h, Z0i, Z3a, Z39, Z08, Z0a, Z07, Z01, Z03, Z00, Z05, Z06, Z04, Z26, Z25, Z4q, Z4s, Z4r, Z4p, Z1u, Z1v, Z1t, Z40, Z3x, Z3z, Z3y, Z41, Z1s, Z2j, Z3d, Z4f, Z1k, Z1l, Z1m, Z4d, Z4e, Z1i, Z2i, Z1j, Z3v, Z3s, Z3u, Z3t, Z3w, Z4l, Z4k, Z0v, Z0w, Z0x, Z0u, Z1h, Z4w, Z4v, Z4x, Z4u, Z4t, ex, Z4n, Z4m, ev_t, ev_c, Z2h, Z2g, Z4y, Z4z, Z2x, Z2w, Z2q, Z2u, Z2v, Z2r, Z2s, Z2t, putc, exBslice, lfill, exField, exIdxV, exIdxP, exBox, exAlloc, exLoad, exStore, exFieldA, exIdxA, exLen, exPick, exUn, exBeq, exMM, exSeq, seqGo, exExt, binV, intOp, subc, AV.solid, S0, encI, encB] at h
      obtain ⟨xs, h1, h2⟩ := h
      simp [evC, RV.ev, Z4n] at h1
      subst h1
      exact ⟨3, by simpa [packC, Nat.add_assoc] using h2⟩
  clear hn
  cases x with
  | sl t ys =>
    cases ys with
    | nil =>
      obtain ⟨m, hk⟩ := key (.sl t []) (fun n nid v S' h => by
        by_cases ha : appOk by_ 0 0 <;> simp [exApp, lstE, AV.oid, Eff.run, St.setL, St.setO, ha] at h
        exact ⟨h.1.symm, h.2.symm⟩) hb
      simp [Z0j, Z0e, Z0f, Z0b, Z0c, Z0k, Z0d, Z0h, Z0i, Z3a, Z39, Z08, Z0a, Z07, Z01, Z03, Z00, Z05, Z06, Z04, Z26, Z25, Z4q, Z4s, Z4r, Z4p, Z1u, Z1v, Z1t, Z40, Z3x, Z3z, Z3y, Z41, Z1s, Z2j, Z3d, Z4f, Z1k, Z1l, Z1m, Z4d, Z4e, Z1i, Z2i, Z1j, Z3v, Z3s, Z3u, Z3t, Z3w, Z4l, Z4k, Z0v, Z0w, Z0x, Z0u, Z1h, Z4w, Z4v, Z4x, Z4u, Z4t, ex, Z4n, Z4m, ev_t, ev_c, Z2h, Z2g, Z4y, Z4z, Z2x, Z2w, Z2q, Z2u, Z2v, Z2r, Z2s, Z2t, putc, exBslice, lfill, exField, exIdxV, exIdxP, exBox, exAlloc, exLoad, exStore, exFieldA, exIdxA, exLen, exPick, exUn, exBeq, exMM, exSeq, seqGo, exExt, binV, intOp, subc, AV.solid, S0, encI, encB, c_cloneOv, exBslice_nil] at hb1
      simp [Z0j, Z0e, Z0f, Z0b, Z0c, Z0k, Z0d, Z0h, Z0i, Z3a, Z39, Z08, Z0a, Z07, Z01, Z03, Z00, Z05, Z06, Z04, Z26, Z25, Z4q, Z4s, Z4r, Z4p, Z1u, Z1v, Z1t, Z40, Z3x, Z3z, Z3y, Z41, Z1s, Z2j, Z3d, Z4f, Z1k, Z1l, Z1m, Z4d, Z4e, Z1i, Z2i, Z1j, Z3v, Z3s, Z3u, Z3t, Z3w, Z4l, Z4k, Z0v, Z0w, Z0x, Z0u, Z1h, Z4w, Z4v, Z4x, Z4u, Z4t, ex, Z4n, Z4m, ev_t, ev_c, Z2h, Z2g, Z4y, Z4z, Z2x, Z2w, Z2q, Z2u, Z2v, Z2r, Z2s, Z2t, putc, exBslice, lfill, exField, exIdxV, exIdxP, exBox, exAlloc, exLoad, exStore, exFieldA, exIdxA, exLen, exPick, exUn, exBeq, exMM, exSeq, seqGo, exExt, binV, intOp, subc, AV.solid, S0, encI, encB, c_slices_Clone, exBslice_nil, exNilq_nil, opR_none, nilG, isEmptyL]
      exact ⟨hb1, m, hk⟩
    | cons y ys =>
      simp [Z0j, Z0e, Z0f, Z0b, Z0c, Z0k, Z0d, Z0h, Z0i, Z3a, Z39, Z08, Z0a, Z07, Z01, Z03, Z00, Z05, Z06, Z04, Z26, Z25, Z4q, Z4s, Z4r, Z4p, Z1u, Z1v, Z1t, Z40, Z3x, Z3z, Z3y, Z41, Z1s, Z2j, Z3d, Z4f, Z1k, Z1l, Z1m, Z4d, Z4e, Z1i, Z2i, Z1j, Z3v, Z3s, Z3u, Z3t, Z3w, Z4l, Z4k, Z0v, Z0w, Z0x, Z0u, Z1h, Z4w, Z4v, Z4x, Z4u, Z4t, ex, Z4n, Z4m, ev_t, ev_c, Z2h, Z2g, Z4y, Z4z, Z2x, Z2w, Z2q, Z2u, Z2v, Z2r, Z2s, Z2t, putc, exBslice, lfill, exField, exIdxV, exIdxP, exBox, exAlloc, exLoad, exStore, exFieldA, exIdxA, exLen, exPick, exUn, exBeq, exMM, exSeq, seqGo, exExt, binV, intOp, subc, AV.solid, S0, encI, encB, c_cloneOv, exBslice_nil] at hb1
      simp [Z0j, Z0e, Z0f, Z0b, Z0c, Z0k, Z0d, Z0h, Z0i, Z3a, Z39, Z08, Z0a, Z07, Z01, Z03, Z00, Z05, Z06, Z04, Z26, Z25, Z4q, Z4s, Z4r, Z4p, Z1u, Z1v, Z1t, Z40, Z3x, Z3z, Z3y, Z41, Z1s, Z2j, Z3d, Z4f, Z1k, Z1l, Z1m, Z4d, Z4e, Z1i, Z2i, Z1j, Z3v, Z3s, Z3u, Z3t, Z3w, Z4l, Z4k, Z0v, Z0w, Z0x, Z0u, Z1h, Z4w, Z4v, Z4x, Z4u, Z4t, ex, Z4n, Z4m, ev_t, ev_c, Z2h, Z2g, Z4y, Z4z, Z2x, Z2w, Z2q, Z2u, Z2v, Z2r, Z2s, Z2t, putc, exBslice, lfill, exField, exIdxV, exIdxP, exBox, exAlloc, exLoad, exStore, exFieldA, exIdxA, exLen, exPick, exUn, exBeq, exMM, exSeq, seqGo, exExt, binV, intOp, subc, AV.solid, S0, encI, encB, c_slices_Clone, exBslice_nil, exNilq_cons]
      exact hb1
  | own id off len =>
    cases len with
    | zero =>
      obtain ⟨m, hk⟩ := key (.own id off 0) (fun n nid v S' h => by
        simp only [exApp, Eff.run] at h
        split at h
        · cases h
        · rename_i bs hbs
          cases hl : lstE es bs (.own id off 0) with
          | none => rw [hl] at h; simp at h
          | some ys =>
            rw [hl] at h
            have h0 : ys = [] := lstE_own0 hl
            subst h0
            by_cases ha : appOk by_ 0 0 <;> simp [AV.oid, St.setL, St.setO, ha] at h
            exact ⟨h.1.symm, h.2.symm⟩) hb
      simp [Z0j, Z0e, Z0f, Z0b, Z0c, Z0k, Z0d, Z0h, Z0i, Z3a, Z39, Z08, Z0a, Z07, Z01, Z03, Z00, Z05, Z06, Z04, Z26, Z25, Z4q, Z4s, Z4r, Z4p, Z1u, Z1v, Z1t, Z40, Z3x, Z3z, Z3y, Z41, Z1s, Z2j, Z3d, Z4f, Z1k, Z1l, Z1m, Z4d, Z4e, Z1i, Z2i, Z1j, Z3v, Z3s, Z3u, Z3t, Z3w, Z4l, Z4k, Z0v, Z0w, Z0x, Z0u, Z1h, Z4w, Z4v, Z4x, Z4u, Z4t, ex, Z4n, Z4m, ev_t, ev_c, Z2h, Z2g, Z4y, Z4z, Z2x, Z2w, Z2q, Z2u, Z2v, Z2r, Z2s, Z2t, putc, exBslice, lfill, exField, exIdxV, exIdxP, exBox, exAlloc, exLoad, exStore, exFieldA, exIdxA, exLen, exPick, exUn, exBeq, exMM, exSeq, seqGo, exExt, binV, intOp, subc, AV.solid, S0, encI, encB, c_cloneOv, exBslice_nil] at hb1
      simp [Z0j, Z0e, Z0f, Z0b, Z0c, Z0k, Z0d, Z0h, Z0i, Z3a, Z39, Z08, Z0a, Z07, Z01, Z03, Z00, Z05, Z06, Z04, Z26, Z25, Z4q, Z4s, Z4r, Z4p, Z1u, Z1v, Z1t, Z40, Z3x, Z3z, Z3y, Z41, Z1s, Z2j, Z3d, Z4f, Z1k, Z1l, Z1m, Z4d, Z4e, Z1i, Z2i, Z1j, Z3v, Z3s, Z3u, Z3t, Z3w, Z4l, Z4k, Z0v, Z0w, Z0x, Z0u, Z1h, Z4w, Z4v, Z4x, Z4u, Z4t, ex, Z4n, Z4m, ev_t, ev_c, Z2h, Z2g, Z4y, Z4z, Z2x, Z2w, Z2q, Z2u, Z2v, Z2r, Z2s, Z2t, putc, exBslice, lfill, exField, exIdxV, exIdxP, exBox, exAlloc, exLoad, exStore, exFieldA, exIdxA, exLen, exPick, exUn, exBeq, exMM, exSeq, seqGo, exExt, binV, intOp, subc, AV.solid, S0, encI, encB, c_slices_Clone, exBslice_nil, exNilq_own0, opR_none, nilG, isEmptyL]
      exact ⟨hb1, m, hk⟩
    | succ m =>
      simp [Z0j, Z0e, Z0f, Z0b, Z0c, Z0k, Z0d, Z0h, Z0i, Z3a, Z39, Z08, Z0a, Z07, Z01, Z03, Z00, Z05, Z06, Z04, Z26, Z25, Z4q, Z4s, Z4r, Z4p, Z1u, Z1v, Z1t, Z40, Z3x, Z3z, Z3y, Z41, Z1s, Z2j, Z3d, Z4f, Z1k, Z1l, Z1m, Z4d, Z4e, Z1i, Z2i, Z1j, Z3v, Z3s, Z3u, Z3t, Z3w, Z4l, Z4k, Z0v, Z0w, Z0x, Z0u, Z1h, Z4w, Z4v, Z4x, Z4u, Z4t, ex, Z4n, Z4m, ev_t, ev_c, Z2h, Z2g, Z4y, Z4z, Z2x, Z2w, Z2q, Z2u, Z2v, Z2r, Z2s, Z2t, putc, exBslice, lfill, exField, exIdxV, exIdxP, exBox, exAlloc, exLoad, exStore, exFieldA, exIdxA, exLen, exPick, exUn, exBeq, exMM, exSeq, seqGo, exExt, binV, intOp, subc, AV.solid, S0, encI, encB, c_cloneOv, exBslice_nil] at hb1
      simp [Z0j, Z0e, Z0f, Z0b, Z0c, Z0k, Z0d, Z0h, Z0i, Z3a, Z39, Z08, Z0a, Z07, Z01, Z03, Z00, Z05, Z06, Z04, Z26, Z25, Z4q, Z4s, Z4r, Z4p, Z1u, Z1v, Z1t, Z40, Z3x, Z3z, Z3y, Z41, Z1s, Z2j, Z3d, Z4f, Z1k, Z1l, Z1m, Z4d, Z4e, Z1i, Z2i, Z1j, Z3v, Z3s, Z3u, Z3t, Z3w, Z4l, Z4k, Z0v, Z0w, Z0x, Z0u, Z1h, Z4w, Z4v, Z4x, Z4u, Z4t, ex, Z4n, Z4m, ev_t, ev_c, Z2h, Z2g, Z4y, Z4z, Z2x, Z2w, Z2q, Z2u, Z2v, Z2r, Z2s, Z2t, putc, exBslice, lfill, exField, exIdxV, exIdxP, exBox, exAlloc, exLoad, exStore, exFieldA, exIdxA, exLen, exPick, exUn, exBeq, exMM, exSeq, seqGo, exExt, binV, intOp, subc, AV.solid, S0, encI, encB, c_slices_Clone, exBslice_nil, exNilq_own]
      exact hb1
  | _ =>
    exfalso
    simp [Z0j, Z0e, Z0f, Z0b, Z0c, Z0k, Z0d, Z0h, Z0i, Z3a, Z39, Z08, Z0a, Z07, Z01, Z03, Z00, Z05, Z06, Z04, Z26, Z25, Z4q, Z4s, Z4r, Z4p, Z1u, Z1v, Z1t, Z40, Z3x, Z3z, Z3y, Z41, Z1s, Z2j, Z3d, Z4f, Z1k, Z1l, Z1m, Z4d, Z4e, Z1i, Z2i, Z1j, Z3v, Z3s, Z3u, Z3t, Z3w, Z4l, Z4k, Z0v, Z0w, Z0x, Z0u, Z1h, Z4w, Z4v, Z4x, Z4u, Z4t, ex, Z4n, Z4m, ev_t, ev_c, Z2h, Z2g, Z4y, Z4z, Z2x, Z2w, Z2q, Z2u, Z2v, Z2r, Z2s, Z2t, putc, exBslice, lfill, exField, exIdxV, exIdxP, exBox, exAlloc, exLoad, exStore, exFieldA, exIdxA, exLen, exPick, exUn, exBeq, exMM, exSeq, seqGo, exExt, binV, intOp, subc, AV.solid, S0, encI, encB, c_cloneOv, exBslice_nil] at hb1
    simp [exApp, lstE, AV.oid, Eff.run, opR_none, nilG] at hb1
end Go.Rf


/- Own work: a call in a region whose order is drawn, all plain data. -/
set_option linter.unusedVariables false
namespace Go.Rf
theorem CallD.kl {P : Program} {f : FuncId} {args : List AV} {r : AV} {S : St} (h : PureC P f args r) (hc : ∀ x ∈ args, Closed x) (hr : Closed r) : CallD P f args S [] r :=
  ⟨args, h, rfl, fun j h1 _ => .closed _ (hc _ (List.getElem_mem h1)), .inr (.inl ⟨rfl, hr⟩)⟩
end Go.Rf

