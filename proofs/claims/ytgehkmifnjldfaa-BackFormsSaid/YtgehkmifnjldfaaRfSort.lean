import Derived.Test.YtgehkmifnjldfaaRfCell
import Derived.Test.YtgehkmifnjldfaaRfRun
import Derived.Test.YtgehkmifnjldfaaRfL10
import Derived.Lib.SlicesCompact
import Derived.Lib.RowBridge
import Derived.Sort.Row
import Derived.Sort.Grow
/- Own work: slices.Clone, of whatever elements: a list of the call's own. -/
set_option linter.unusedVariables false
set_option linter.unusedSimpArgs false
namespace Go.Rf
open Go.RowKit

theorem CallR.bump {P : Program} {f : FuncId} {args : List AV} {S : St} {K : AV → St → Prop} (h : CallR P f args S fun r S' => ∃ m, K r ⟨S'.n + m, S'.g⟩) : CallR P f args S K := by
  refine ⟨h.1, fun E w vals hG hS hv => (h.2 E w vals hG hS hv).mono ?_⟩
  rintro e w' ⟨v, r, S', E', rfl, ⟨m, hk⟩, hS', hr, hev⟩
  refine ⟨v, r, ⟨S'.n + m, S'.g⟩, E', rfl, hk, hS'.reserve m, hr, ?_⟩
  exact ⟨⟨hev.evo.os, hev.evo.tape, hev.evo.output, hev.evo.size, hev.evo.keep, fun id l k hk hl => hev.evo.grow id l k hk hl, hev.evo.le, hev.evo.hsub⟩, Nat.le_trans hev.nle (Nat.le_add_right _ _), hev.low⟩
def c_slices_Clone (es by_ : Nat) (z : AV) : AC :=
  (.seq (.reg none [
   ⟨(some 2), .mv (.c (.sl true [])), none, none⟩])
  (.seq (.seq (.reg none [
   ⟨(some 3), .mv (.t 0), none, none⟩,
   ⟨(some 4), .nilq true false (.t 3), none, none⟩])
  (.cond (.t 4) (.seq (.reg none [
    ⟨(some 2), .mv (.c (.sl true [])), none, none⟩])
   .ret) .skip))
  (.seq (.reg none [
   ⟨(some 5), .bslice es 0 z [], none, none⟩,
   ⟨(some 6), .mv (.t 0), none, none⟩,
   ⟨(some 7), .app es by_ (.t 5) (.t 6), none, none⟩,
   ⟨(some 2), .mv (.t 7), none, none⟩])
  .ret)))
/-- The same, but for the test on nil. -/
def c_cloneOv (es by_ : Nat) (z : AV) : AC :=
  (.seq (.reg none [
   ⟨(some 2), .mv (.c (.sl true [])), none, none⟩])
  (.seq (.reg none [
   ⟨(some 3), .mv (.t 0), none, none⟩,
   ⟨(some 4), .mv (.c (.v (.bool false))), none, none⟩])
  (.seq (.reg none [
   ⟨(some 5), .bslice es 0 z [], none, none⟩,
   ⟨(some 6), .mv (.t 0), none, none⟩,
   ⟨(some 7), .app es by_ (.t 5) (.t 6), none, none⟩,
   ⟨(some 2), .mv (.t 7), none, none⟩])
  .ret)))
theorem opR_none {P : Program} {base : Nat} {os : List AOper} {i : Nat} {K : AF → St → Prop} {a : AF} {d : Option Nat} {op : AOp} {S : St} : opR P base os i K a d op S none = nilG op a fun v => RG P base os (i + 1) K (a.put d v) S := by simp only [opR]
theorem exNilq_cons (neg t : Bool) (x : AV) (xs : List AV) : exNilq true neg (.sl t (x :: xs)) = some (.v (.bool neg)) := by simp only [exNilq]
theorem exNilq_nil (neg t : Bool) : exNilq true neg (.sl t []) = none := by simp only [exNilq]
theorem exNilq_own (neg : Bool) (id off n : Nat) : exNilq true neg (.own id off (n + 1)) = some (.v (.bool neg)) := by simp only [exNilq]
theorem exNilq_own0 (neg : Bool) (id off : Nat) : exNilq true neg (.own id off 0) = none := by simp only [exNilq]
theorem lstE_own0 {es id off : Nat} {bs : List Blk} {ys : List AV} (h : lstE es bs (.own id off 0) = some ys) : ys = [] := by
  simp only [lstE] at h
  split at h
  · split at h
    · simp at h; exact h
    · cases h
  · cases h
theorem exBslice_nil (es : Nat) (z : AV) : exBslice es 0 z [] = some (.sl true []) := by simp [exBslice, lfill]
theorem Clone_by {P : Program} (hm : P.follows .mixedOrders = true) {f : FuncId} {es by_ : Nat} {z : AV} (h : Is P f (c_slices_Clone es by_ z) [2] 1) : ByC P f (c_cloneOv es by_ z) [.t 2] 1 := by
  intro args S K hn hb
  obtain ⟨x, rfl⟩ : ∃ x, args = [x] := by
    match args, hn with
    | [x], _ => exact ⟨x, rfl⟩
  refine CallR.bump (h.callR hm rfl ?_)
  have hb1 : AW P (c_cloneOv es by_ z) (RetK [2] fun r S' => ∃ m, K r ⟨S'.n + m, S'.g⟩) (argF [x]) S := by
    refine AW_mono _ (fun e a S' h => ?_) hb
    cases e <;> simp only [RetC, RetK] at h ⊢
    all_goals
      obtain ⟨xs, h1, h2⟩ := h
      simp [evC, RV.ev] at h1
      subst h1
      simp only [Z46]
      exact ⟨0, h2⟩
  have key : ∀ y : AV, (∀ n nid v S', (exApp es by_ (.sl true []) y).run ⟨n, S.g⟩ nid = some (v, S') → v = .sl true [] ∧ S' = ⟨n, S.g⟩) → AW P (c_cloneOv es by_ z) (RetC [.t 2] K) (argF [y]) S → ∃ m, K (.sl true []) ⟨S.n + 4 + m, S.g⟩ := by
    intro y hy h
    simp [Z0h, Z0c, Z0d, Z09, Z0a, Z0i, Z0b, Z0f, Z0g, Z2z, Z2y, Z07, Z08, Z06, Z01, Z02, Z00, Z04, Z05, Z03, Z1z, Z1y, Z46, Z48, Z47, Z45, Z1n, Z1o, Z1m, Z3n, Z3k, Z3m, Z3l, Z3o, Z1l, Z29, Z32, Z3x, Z1i, Z1j, Z1k, Z3v, Z3w, Z1g, Z28, Z1h, Z3i, Z3f, Z3h, Z3g, Z3j, Z41, Z40, Z0t, Z0u, Z0v, Z0s, Z1f, Z4c, Z4b, Z4d, Z4a, Z49, ex, Z43, Z42, ev_t, ev_c, Z27, Z26, Z4e, Z4f, Z2m, Z2l, Z2f, Z2j, Z2k, Z2g, Z2h, Z2i, putc, exBslice, lfill, exField, exIdxV, exIdxP, exBox, exAlloc, exLoad, exStore, exFieldA, exIdxA, exLen, exPick, exUn, exBeq, exMM, exSeq, seqGo, exExt, binV, intOp, subc, AV.solid, S0, encI, encB, c_cloneOv, exBslice_nil] at h
    generalize hq : (exApp es by_ (.sl true []) y).run _ _ = q at h
    cases q with
    | none => simp [opR_none, nilG] at h
    | some p =>
      obtain ⟨v, S'⟩ := p
      obtain ⟨rfl, rfl⟩ := hy _ _ _ _ hq
      simp [Z0h, Z0c, Z0d, Z09, Z0a, Z0i, Z0b, Z0f, Z0g, Z2z, Z2y, Z07, Z08, Z06, Z01, Z02, Z00, Z04, Z05, Z03, Z1z, Z1y, Z46, Z48, Z47, Z45, Z1n, Z1o, Z1m, Z3n, Z3k, Z3m, Z3l, Z3o, Z1l, Z29, Z32, Z3x, Z1i, Z1j, Z1k, Z3v, Z3w, Z1g, Z28, Z1h, Z3i, Z3f, Z3h, Z3g, Z3j, Z41, Z40, Z0t, Z0u, Z0v, Z0s, Z1f, Z4c, Z4b, Z4d, Z4a, Z49, ex, Z43, Z42, ev_t, ev_c, Z27, Z26, Z4e, Z4f, Z2m, Z2l, Z2f, Z2j, Z2k, Z2g, Z2h, Z2i, putc, exBslice, lfill, exField, exIdxV, exIdxP, exBox, exAlloc, exLoad, exStore, exFieldA, exIdxA, exLen, exPick, exUn, exBeq, exMM, exSeq, seqGo, exExt, binV, intOp, subc, AV.solid, S0, encI, encB] at h
      obtain ⟨xs, h1, h2⟩ := h
      simp [evC, RV.ev, Z43] at h1
      subst h1
      exact ⟨3, by simpa [packC, Nat.add_assoc] using h2⟩
  clear hn
  cases x with
  | sl t ys =>
    cases ys with
    | nil =>
      obtain ⟨m, hk⟩ := key (.sl t []) (fun n nid v S' h => by
        by_cases ha : appOk by_ 0 0 <;> simp [exApp, lstE, AV.oid, Eff.run, St.setL, St.setO, ha] at h
        exact ⟨h.1.symm, h.2.symm⟩) hb
      simp [Z0h, Z0c, Z0d, Z09, Z0a, Z0i, Z0b, Z0f, Z0g, Z2z, Z2y, Z07, Z08, Z06, Z01, Z02, Z00, Z04, Z05, Z03, Z1z, Z1y, Z46, Z48, Z47, Z45, Z1n, Z1o, Z1m, Z3n, Z3k, Z3m, Z3l, Z3o, Z1l, Z29, Z32, Z3x, Z1i, Z1j, Z1k, Z3v, Z3w, Z1g, Z28, Z1h, Z3i, Z3f, Z3h, Z3g, Z3j, Z41, Z40, Z0t, Z0u, Z0v, Z0s, Z1f, Z4c, Z4b, Z4d, Z4a, Z49, ex, Z43, Z42, ev_t, ev_c, Z27, Z26, Z4e, Z4f, Z2m, Z2l, Z2f, Z2j, Z2k, Z2g, Z2h, Z2i, putc, exBslice, lfill, exField, exIdxV, exIdxP, exBox, exAlloc, exLoad, exStore, exFieldA, exIdxA, exLen, exPick, exUn, exBeq, exMM, exSeq, seqGo, exExt, binV, intOp, subc, AV.solid, S0, encI, encB, c_cloneOv, exBslice_nil] at hb1
      simp [Z0h, Z0c, Z0d, Z09, Z0a, Z0i, Z0b, Z0f, Z0g, Z2z, Z2y, Z07, Z08, Z06, Z01, Z02, Z00, Z04, Z05, Z03, Z1z, Z1y, Z46, Z48, Z47, Z45, Z1n, Z1o, Z1m, Z3n, Z3k, Z3m, Z3l, Z3o, Z1l, Z29, Z32, Z3x, Z1i, Z1j, Z1k, Z3v, Z3w, Z1g, Z28, Z1h, Z3i, Z3f, Z3h, Z3g, Z3j, Z41, Z40, Z0t, Z0u, Z0v, Z0s, Z1f, Z4c, Z4b, Z4d, Z4a, Z49, ex, Z43, Z42, ev_t, ev_c, Z27, Z26, Z4e, Z4f, Z2m, Z2l, Z2f, Z2j, Z2k, Z2g, Z2h, Z2i, putc, exBslice, lfill, exField, exIdxV, exIdxP, exBox, exAlloc, exLoad, exStore, exFieldA, exIdxA, exLen, exPick, exUn, exBeq, exMM, exSeq, seqGo, exExt, binV, intOp, subc, AV.solid, S0, encI, encB, c_slices_Clone, exBslice_nil, exNilq_nil, opR_none, nilG, isEmptyL]
      exact ⟨hb1, m, hk⟩
    | cons y ys =>
      simp [Z0h, Z0c, Z0d, Z09, Z0a, Z0i, Z0b, Z0f, Z0g, Z2z, Z2y, Z07, Z08, Z06, Z01, Z02, Z00, Z04, Z05, Z03, Z1z, Z1y, Z46, Z48, Z47, Z45, Z1n, Z1o, Z1m, Z3n, Z3k, Z3m, Z3l, Z3o, Z1l, Z29, Z32, Z3x, Z1i, Z1j, Z1k, Z3v, Z3w, Z1g, Z28, Z1h, Z3i, Z3f, Z3h, Z3g, Z3j, Z41, Z40, Z0t, Z0u, Z0v, Z0s, Z1f, Z4c, Z4b, Z4d, Z4a, Z49, ex, Z43, Z42, ev_t, ev_c, Z27, Z26, Z4e, Z4f, Z2m, Z2l, Z2f, Z2j, Z2k, Z2g, Z2h, Z2i, putc, exBslice, lfill, exField, exIdxV, exIdxP, exBox, exAlloc, exLoad, exStore, exFieldA, exIdxA, exLen, exPick, exUn, exBeq, exMM, exSeq, seqGo, exExt, binV, intOp, subc, AV.solid, S0, encI, encB, c_cloneOv, exBslice_nil] at hb1
      simp [Z0h, Z0c, Z0d, Z09, Z0a, Z0i, Z0b, Z0f, Z0g, Z2z, Z2y, Z07, Z08, Z06, Z01, Z02, Z00, Z04, Z05, Z03, Z1z, Z1y, Z46, Z48, Z47, Z45, Z1n, Z1o, Z1m, Z3n, Z3k, Z3m, Z3l, Z3o, Z1l, Z29, Z32, Z3x, Z1i, Z1j, Z1k, Z3v, Z3w, Z1g, Z28, Z1h, Z3i, Z3f, Z3h, Z3g, Z3j, Z41, Z40, Z0t, Z0u, Z0v, Z0s, Z1f, Z4c, Z4b, Z4d, Z4a, Z49, ex, Z43, Z42, ev_t, ev_c, Z27, Z26, Z4e, Z4f, Z2m, Z2l, Z2f, Z2j, Z2k, Z2g, Z2h, Z2i, putc, exBslice, lfill, exField, exIdxV, exIdxP, exBox, exAlloc, exLoad, exStore, exFieldA, exIdxA, exLen, exPick, exUn, exBeq, exMM, exSeq, seqGo, exExt, binV, intOp, subc, AV.solid, S0, encI, encB, c_slices_Clone, exBslice_nil, exNilq_cons]
      exact hb1
  | own id off len =>
    cases len with
    | zero =>
      obtain ⟨m, hk⟩ := key (.own id off 0) (fun n nid v S' h => by
        simp only [exApp, Eff.run] at h
        split at h
        · cases h
        · rename_i bs hbs
          cases hl : lstE es bs (.own id off 0) with
          | none => rw [hl] at h; simp at h
          | some ys =>
            rw [hl] at h
            have h0 : ys = [] := lstE_own0 hl
            subst h0
            by_cases ha : appOk by_ 0 0 <;> simp [AV.oid, St.setL, St.setO, ha] at h
            exact ⟨h.1.symm, h.2.symm⟩) hb
      simp [Z0h, Z0c, Z0d, Z09, Z0a, Z0i, Z0b, Z0f, Z0g, Z2z, Z2y, Z07, Z08, Z06, Z01, Z02, Z00, Z04, Z05, Z03, Z1z, Z1y, Z46, Z48, Z47, Z45, Z1n, Z1o, Z1m, Z3n, Z3k, Z3m, Z3l, Z3o, Z1l, Z29, Z32, Z3x, Z1i, Z1j, Z1k, Z3v, Z3w, Z1g, Z28, Z1h, Z3i, Z3f, Z3h, Z3g, Z3j, Z41, Z40, Z0t, Z0u, Z0v, Z0s, Z1f, Z4c, Z4b, Z4d, Z4a, Z49, ex, Z43, Z42, ev_t, ev_c, Z27, Z26, Z4e, Z4f, Z2m, Z2l, Z2f, Z2j, Z2k, Z2g, Z2h, Z2i, putc, exBslice, lfill, exField, exIdxV, exIdxP, exBox, exAlloc, exLoad, exStore, exFieldA, exIdxA, exLen, exPick, exUn, exBeq, exMM, exSeq, seqGo, exExt, binV, intOp, subc, AV.solid, S0, encI, encB, c_cloneOv, exBslice_nil] at hb1
      simp [Z0h, Z0c, Z0d, Z09, Z0a, Z0i, Z0b, Z0f, Z0g, Z2z, Z2y, Z07, Z08, Z06, Z01, Z02, Z00, Z04, Z05, Z03, Z1z, Z1y, Z46, Z48, Z47, Z45, Z1n, Z1o, Z1m, Z3n, Z3k, Z3m, Z3l, Z3o, Z1l, Z29, Z32, Z3x, Z1i, Z1j, Z1k, Z3v, Z3w, Z1g, Z28, Z1h, Z3i, Z3f, Z3h, Z3g, Z3j, Z41, Z40, Z0t, Z0u, Z0v, Z0s, Z1f, Z4c, Z4b, Z4d, Z4a, Z49, ex, Z43, Z42, ev_t, ev_c, Z27, Z26, Z4e, Z4f, Z2m, Z2l, Z2f, Z2j, Z2k, Z2g, Z2h, Z2i, putc, exBslice, lfill, exField, exIdxV, exIdxP, exBox, exAlloc, exLoad, exStore, exFieldA, exIdxA, exLen, exPick, exUn, exBeq, exMM, exSeq, seqGo, exExt, binV, intOp, subc, AV.solid, S0, encI, encB, c_slices_Clone, exBslice_nil, exNilq_own0, opR_none, nilG, isEmptyL]
      exact ⟨hb1, m, hk⟩
    | succ m =>
      simp [Z0h, Z0c, Z0d, Z09, Z0a, Z0i, Z0b, Z0f, Z0g, Z2z, Z2y, Z07, Z08, Z06, Z01, Z02, Z00, Z04, Z05, Z03, Z1z, Z1y, Z46, Z48, Z47, Z45, Z1n, Z1o, Z1m, Z3n, Z3k, Z3m, Z3l, Z3o, Z1l, Z29, Z32, Z3x, Z1i, Z1j, Z1k, Z3v, Z3w, Z1g, Z28, Z1h, Z3i, Z3f, Z3h, Z3g, Z3j, Z41, Z40, Z0t, Z0u, Z0v, Z0s, Z1f, Z4c, Z4b, Z4d, Z4a, Z49, ex, Z43, Z42, ev_t, ev_c, Z27, Z26, Z4e, Z4f, Z2m, Z2l, Z2f, Z2j, Z2k, Z2g, Z2h, Z2i, putc, exBslice, lfill, exField, exIdxV, exIdxP, exBox, exAlloc, exLoad, exStore, exFieldA, exIdxA, exLen, exPick, exUn, exBeq, exMM, exSeq, seqGo, exExt, binV, intOp, subc, AV.solid, S0, encI, encB, c_cloneOv, exBslice_nil] at hb1
      simp [Z0h, Z0c, Z0d, Z09, Z0a, Z0i, Z0b, Z0f, Z0g, Z2z, Z2y, Z07, Z08, Z06, Z01, Z02, Z00, Z04, Z05, Z03, Z1z, Z1y, Z46, Z48, Z47, Z45, Z1n, Z1o, Z1m, Z3n, Z3k, Z3m, Z3l, Z3o, Z1l, Z29, Z32, Z3x, Z1i, Z1j, Z1k, Z3v, Z3w, Z1g, Z28, Z1h, Z3i, Z3f, Z3h, Z3g, Z3j, Z41, Z40, Z0t, Z0u, Z0v, Z0s, Z1f, Z4c, Z4b, Z4d, Z4a, Z49, ex, Z43, Z42, ev_t, ev_c, Z27, Z26, Z4e, Z4f, Z2m, Z2l, Z2f, Z2j, Z2k, Z2g, Z2h, Z2i, putc, exBslice, lfill, exField, exIdxV, exIdxP, exBox, exAlloc, exLoad, exStore, exFieldA, exIdxA, exLen, exPick, exUn, exBeq, exMM, exSeq, seqGo, exExt, binV, intOp, subc, AV.solid, S0, encI, encB, c_slices_Clone, exBslice_nil, exNilq_own]
      exact hb1
  | _ =>
    exfalso
    simp [Z0h, Z0c, Z0d, Z09, Z0a, Z0i, Z0b, Z0f, Z0g, Z2z, Z2y, Z07, Z08, Z06, Z01, Z02, Z00, Z04, Z05, Z03, Z1z, Z1y, Z46, Z48, Z47, Z45, Z1n, Z1o, Z1m, Z3n, Z3k, Z3m, Z3l, Z3o, Z1l, Z29, Z32, Z3x, Z1i, Z1j, Z1k, Z3v, Z3w, Z1g, Z28, Z1h, Z3i, Z3f, Z3h, Z3g, Z3j, Z41, Z40, Z0t, Z0u, Z0v, Z0s, Z1f, Z4c, Z4b, Z4d, Z4a, Z49, ex, Z43, Z42, ev_t, ev_c, Z27, Z26, Z4e, Z4f, Z2m, Z2l, Z2f, Z2j, Z2k, Z2g, Z2h, Z2i, putc, exBslice, lfill, exField, exIdxV, exIdxP, exBox, exAlloc, exLoad, exStore, exFieldA, exIdxA, exLen, exPick, exUn, exBeq, exMM, exSeq, seqGo, exExt, binV, intOp, subc, AV.solid, S0, encI, encB, c_cloneOv, exBslice_nil] at hb1
    simp [exApp, lstE, AV.oid, Eff.run, opR_none, nilG] at hb1
end Go.Rf


/- Own work: numbers, rising, each once. -/
set_option linter.unusedVariables false
set_option linter.unusedSimpArgs false
namespace Go.Rf

theorem mem_cmp {zs : List Int} {x : Int} : x ∈ Lib.compact zs ↔ x ∈ zs := by
  have hget : ∀ j (hj : j < zs.length), zs.toArray[j]! = zs[j] := fun j hj => by simp [hj]
  simp only [Lib.compact, Lib.compactUpTo, List.mem_map, List.mem_filter, List.mem_range]
  constructor
  · rintro ⟨j, ⟨hj, _⟩, rfl⟩
    rw [hget j hj]; exact List.getElem_mem hj
  · intro hx
    obtain ⟨j, hj, rfl⟩ := List.mem_iff_getElem.mp hx
    have key : ∀ m, ∀ j (hj : j < zs.length), j ≤ m → ∃ a, (a < zs.length ∧ Lib.keeps zs.toArray a = true) ∧ zs.toArray[a]! = zs[j] := by
      intro m
      induction m with
      | zero =>
        intro j hj h0
        have : j = 0 := by omega
        subst this
        exact ⟨0, ⟨hj, by simp [Lib.keeps]⟩, hget 0 hj⟩
      | succ m ih =>
        intro j hj hm
        by_cases hk : Lib.keeps zs.toArray j = true
        · exact ⟨j, ⟨hj, hk⟩, hget j hj⟩
        · have hk' : ¬ (j = 0 ∨ zs.toArray[j]! ≠ zs.toArray[j - 1]!) := by simpa [Lib.keeps] using hk
          have h0 : j ≠ 0 := fun e => hk' (.inl e)
          have he : zs.toArray[j]! = zs.toArray[j - 1]! := Decidable.byContradiction fun e => hk' (.inr e)
          obtain ⟨a, ha, hb⟩ := ih (j - 1) (by omega) (by omega)
          refine ⟨a, ha, ?_⟩
          rw [hb, ← hget (j - 1) (by omega), ← he, hget j hj]
    obtain ⟨a, h1, h2⟩ := key j j hj (Nat.le_refl _)
    exact ⟨a, h1, h2⟩
theorem cmp_pw {zs : List Int} (h : zs.Pairwise (· ≤ ·)) : (Lib.compact zs).Pairwise (· < ·) := by
  have hget : ∀ j (hj : j < zs.length), zs.toArray[j]! = zs[j] := fun j hj => by simp [hj]
  have hp := List.pairwise_iff_getElem.mp h
  simp only [Lib.compact, Lib.compactUpTo]
  rw [List.pairwise_map]
  refine List.Pairwise.imp_of_mem ?_ (List.Pairwise.filter _ List.pairwise_lt_range)
  intro a b ha hb hab
  simp only [List.mem_filter, List.mem_range] at ha hb
  obtain ⟨hb1, hb2⟩ := hb
  have hk : b = 0 ∨ zs.toArray[b]! ≠ zs.toArray[b - 1]! := by simpa [Lib.keeps] using hb2
  have h1 : zs.toArray[b]! ≠ zs.toArray[b - 1]! := by
    rcases hk with h1 | h1
    · omega
    · exact h1
  rw [hget b hb1, hget (b - 1) (by omega)] at h1
  rw [hget a ha.1, hget b hb1]
  have h2 : zs[b - 1] ≤ zs[b] := by
    have := hp (b - 1) b (by omega) hb1 (by omega); exact this
  have h3 : zs[a] ≤ zs[b - 1] := by
    by_cases e : a = b - 1
    · subst e; exact Int.le_refl _
    · exact hp a (b - 1) ha.1 (by omega) (by omega)
  omega
def setF (l : List Int) : List Int := Lib.compact (l.mergeSort fun x y => decide (x ≤ y))
theorem mem_setF {l : List Int} {x : Int} : x ∈ setF l ↔ x ∈ l := by
  unfold setF; rw [mem_cmp]; exact (List.mergeSort_perm _ _).mem_iff
theorem setF_pw (l : List Int) : (setF l).Pairwise (· < ·) := by
  refine cmp_pw ?_
  have := List.pairwise_mergeSort (le := fun x y : Int => decide (x ≤ y)) (by simp; omega) (by simp; omega) l
  simpa using this
/-- Rising lists of the same numbers are the same. -/
theorem pw_ext : ∀ {l m : List Int}, l.Pairwise (· < ·) → m.Pairwise (· < ·) → (∀ x, x ∈ l ↔ x ∈ m) → l = m
  | [], [], _, _, _ => rfl
  | [], y :: m, _, _, h => by have := (h y).mpr (by simp); simp at this
  | x :: l, [], _, _, h => by have := (h x).mp (by simp); simp at this
  | x :: l, y :: m, hl, hm, h => by
    have hl2 := List.pairwise_cons.mp hl
    have hm2 := List.pairwise_cons.mp hm
    have e : x = y := by
      have h1 := (h x).mp (by simp)
      have h2 := (h y).mpr (by simp)
      rcases List.mem_cons.mp h1 with h1 | h1
      · exact h1
      · rcases List.mem_cons.mp h2 with h2 | h2
        · exact h2.symm
        · have := hm2.1 x h1
          have := hl2.1 y h2
          omega
    subst e
    congr 1
    refine pw_ext hl2.2 hm2.2 fun z => ?_
    constructor
    · intro hz
      have := (h z).mp (by simp [hz])
      rcases List.mem_cons.mp this with h1 | h1
      · subst h1; have := hl2.1 z hz; omega
      · exact h1
    · intro hz
      have := (h z).mpr (by simp [hz])
      rcases List.mem_cons.mp this with h1 | h1
      · subst h1; have := hm2.1 z hz; omega
      · exact h1
theorem setF_self {l : List Int} : setF l = l ↔ l.Pairwise (· < ·) := by
  constructor
  · intro h; rw [← h]; exact setF_pw l
  · intro h; exact pw_ext (setF_pw l) h (fun x => mem_setF)
theorem setF_len (l : List Int) : (setF l).length ≤ l.length := by
  unfold setF
  have h1 : (Lib.compact (l.mergeSort fun x y => decide (x ≤ y))).length ≤ (l.mergeSort fun x y => decide (x ≤ y)).length := Lib.compact_length_le _
  rw [List.length_mergeSort] at h1; exact h1
theorem putAll_pw : ∀ (l : List Int) {o : List Int}, o.Pairwise (· < ·) → (l.foldl putF o).Pairwise (· < ·)
  | [], o, h => h
  | x :: l, o, h => putAll_pw l (putF_sorted h)
theorem mem_putAll : ∀ (l : List Int) {o : List Int} {x : Int}, x ∈ l.foldl putF o ↔ x ∈ o ∨ x ∈ l
  | [], o, x => by simp
  | y :: l, o, x => by rw [List.foldl_cons, mem_putAll l, mem_putF, List.mem_cons, or_assoc, or_left_comm]
theorem putAll_eq (l : List Int) : l.foldl putF [] = setF l := pw_ext (putAll_pw l .nil) (setF_pw l) (fun x => by rw [mem_putAll, mem_setF]; simp)
/-- Rising numbers from a to below b: not more than there are. -/
theorem pw_len : ∀ {l : List Int} {a b : Int}, l.Pairwise (· < ·) → (∀ x ∈ l, a ≤ x ∧ x < b) → (l.length : Int) ≤ max 0 (b - a)
  | [], a, b, _, _ => by simp; omega
  | x :: l, a, b, hl, h => by
    have hl2 := List.pairwise_cons.mp hl
    have hx := h x (by simp)
    have := pw_len (l := l) (a := x + 1) (b := b) hl2.2 (fun y hy => ⟨by have := hl2.1 y hy; omega, (h y (by simp [hy])).2⟩)
    simp only [List.length_cons]; omega
/-- Do they rise, from a to below b? -/
def risesB (l : List Int) (a b : Int) : Bool := decide (l.Pairwise (· < ·)) && l.all fun x => decide (a ≤ x) && decide (x < b)
def RisesP (l : List Int) (a b : Int) : Prop := l.Pairwise (· < ·) ∧ ∀ x ∈ l, a ≤ x ∧ x < b
theorem risesB_iff {l : List Int} {a b : Int} : risesB l a b = true ↔ RisesP l a b := by
  simp [risesB, RisesP, List.all_eq_true]
end Go.Rf


set_option linter.unusedVariables false
set_option linter.unusedSimpArgs false
namespace Go.Rf
/-- caesura/caesuraref01.Ints -/
def c_caesuraref01_Ints : AC :=
  (.seq (.reg none [
   ⟨(some 4), .mv (.c (.v (.bool false))), none, none⟩])
  (.seq (.seq (.reg none [
   ⟨(some 6), .mv (.t 0), none, none⟩,
   ⟨(some 7), .len (.t 6), none, none⟩,
   ⟨(some 8), .mv (.t 1), none, none⟩,
   ⟨(some 9), .len (.t 8), none, none⟩,
   ⟨(some 10), .bin .neq (.t 7) (.t 9), none, none⟩])
  (.cond (.t 10) (.seq (.reg none [
    ⟨(some 4), .mv (.c (.v (.bool false))), none, none⟩])
   .ret) .skip))
  (.seq (.seq (.reg none [
   ⟨(some 5), .mv (.c (.v (.int .i64 0))), none, none⟩])
  (.block 0 (.loop (.seq (.seq (.reg none [
     ⟨(some 11), .mv (.t 5), none, none⟩,
     ⟨(some 12), .mv (.t 0), none, none⟩,
     ⟨(some 13), .len (.t 12), none, none⟩,
     ⟨(some 14), .bin .lss (.t 11) (.t 13), none, none⟩])
    (.cond (.t 14) .skip (.exit 0)))
    (.seq (.block 1 (.seq (.reg (some []) [
      ⟨(some 17), .mv (.t 0), none, none⟩,
      ⟨(some 18), .mv (.t 5), none, none⟩,
      ⟨(some 19), .idxA 1 (.t 17) (.t 18), none, none⟩,
      ⟨(some 20), .load none (.t 19), none, none⟩,
      ⟨(some 21), .mv (.t 1), none, none⟩,
      ⟨(some 22), .mv (.t 5), none, none⟩,
      ⟨(some 23), .idxA 1 (.t 21) (.t 22), none, none⟩,
      ⟨(some 24), .load none (.t 23), none, none⟩,
      ⟨(some 25), .bin .neq (.t 20) (.t 24), none, none⟩])
     (.cond (.t 25) (.seq (.reg none [
       ⟨(some 4), .mv (.c (.v (.bool false))), none, none⟩])
      .ret) .skip)))
    (.reg none [
     ⟨(some 15), .mv (.t 5), none, none⟩,
     ⟨(some 16), .bin .add (.t 15) (.c (.v (.int .i64 1))), none, none⟩,
     ⟨(some 5), .mv (.t 16), none, none⟩]))))))
  (.seq (.reg none [
   ⟨(some 4), .mv (.c (.v (.bool true))), none, none⟩])
  .ret))))
def intsI (a b : List Int) (m : Nat) (f : AF) (S : St) : Prop :=
  ∃ i : Nat, i ≤ a.length ∧ m = a.length - i ∧ f 5 = encI i ∧ f 0 = encIs a ∧ f 1 = encIs b ∧ a.length = b.length ∧ a.take i = b.take i
theorem caesuraref01_Ints_body (P : Program) (a b : List Int) (ha : Len a) (hb : Len b) : AW P c_caesuraref01_Ints (RetK [4] (FzK (encB (a == b)))) (argF [encIs a, encIs b]) S0 := by
  unfold Len at ha hb
  by_cases hl : a.length = b.length
  · simp [Z0h, Z0c, Z0d, Z09, Z0a, Z0i, Z0b, Z0f, Z0g, Z2z, Z2y, Z07, Z08, Z06, Z01, Z02, Z00, Z04, Z05, Z03, Z1z, Z1y, Z46, Z48, Z47, Z45, Z1n, Z1o, Z1m, Z3n, Z3k, Z3m, Z3l, Z3o, Z1l, Z29, Z32, Z3x, Z1i, Z1j, Z1k, Z3v, Z3w, Z1g, Z28, Z1h, Z3i, Z3f, Z3h, Z3g, Z3j, Z41, Z40, Z0t, Z0u, Z0v, Z0s, Z1f, Z4c, Z4b, Z4d, Z4a, Z49, ex, Z43, Z42, ev_t, ev_c, Z27, Z26, Z4e, Z4f, Z2m, Z2l, Z2f, Z2j, Z2k, Z2g, Z2h, Z2i, putc, exBslice, lfill, exField, exIdxV, exIdxP, exBox, exAlloc, exLoad, exStore, exFieldA, exIdxA, exLen, exPick, exUn, exBeq, exMM, exSeq, seqGo, exExt, binV, intOp, subc, AV.solid, S0, encI, encB, c_caesuraref01_Ints, encIs, hl]
    refine AW_loop (intsI a b) a.length ?_ ?_
    · refine ⟨0, by omega, by omega, ?_, ?_, ?_, hl, ?_⟩ <;> simp [Z43, Z27, Z26, encI, encIs]
    · rintro m f S ⟨i, hi, rfl, e5, e0, e1, _, hp⟩
      by_cases hlt : i < a.length
      · have hlb : i < b.length := by omega
        by_cases he : a[i] = b[i]
        · simp [Z0h, Z0c, Z0d, Z09, Z0a, Z0i, Z0b, Z0f, Z0g, Z2z, Z2y, Z07, Z08, Z06, Z01, Z02, Z00, Z04, Z05, Z03, Z1z, Z1y, Z46, Z48, Z47, Z45, Z1n, Z1o, Z1m, Z3n, Z3k, Z3m, Z3l, Z3o, Z1l, Z29, Z32, Z3x, Z1i, Z1j, Z1k, Z3v, Z3w, Z1g, Z28, Z1h, Z3i, Z3f, Z3h, Z3g, Z3j, Z41, Z40, Z0t, Z0u, Z0v, Z0s, Z1f, Z4c, Z4b, Z4d, Z4a, Z49, ex, Z43, Z42, ev_t, ev_c, Z27, Z26, Z4e, Z4f, Z2m, Z2l, Z2f, Z2j, Z2k, Z2g, Z2h, Z2i, putc, exBslice, lfill, exField, exIdxV, exIdxP, exBox, exAlloc, exLoad, exStore, exFieldA, exIdxA, exLen, exPick, exUn, exBeq, exMM, exSeq, seqGo, exExt, binV, intOp, subc, AV.solid, S0, encI, encB, e5, e0, e1, encIs, hlt, hlb, he]
          rw [wrap_in _ (by omega)]
          refine ⟨a.length - (i + 1), by omega, i + 1, by omega, rfl, ?_, ?_, ?_, hl, ?_⟩ <;> try simp [Z43, e5, e0, e1, encI, encIs]
          rw [List.take_add_one, List.take_add_one, hp, List.getElem?_eq_getElem hlt, List.getElem?_eq_getElem hlb, he]
        · have hr : (a == b) = false := beq_false_of_ne (by rintro rfl; exact he rfl)
          have hc : (a[i] != b[i]) = true := by simp [he]
          simp [Z0h, Z0c, Z0d, Z09, Z0a, Z0i, Z0b, Z0f, Z0g, Z2z, Z2y, Z07, Z08, Z06, Z01, Z02, Z00, Z04, Z05, Z03, Z1z, Z1y, Z46, Z48, Z47, Z45, Z1n, Z1o, Z1m, Z3n, Z3k, Z3m, Z3l, Z3o, Z1l, Z29, Z32, Z3x, Z1i, Z1j, Z1k, Z3v, Z3w, Z1g, Z28, Z1h, Z3i, Z3f, Z3h, Z3g, Z3j, Z41, Z40, Z0t, Z0u, Z0v, Z0s, Z1f, Z4c, Z4b, Z4d, Z4a, Z49, ex, Z43, Z42, ev_t, ev_c, Z27, Z26, Z4e, Z4f, Z2m, Z2l, Z2f, Z2j, Z2k, Z2g, Z2h, Z2i, putc, exBslice, lfill, exField, exIdxV, exIdxP, exBox, exAlloc, exLoad, exStore, exFieldA, exIdxA, exLen, exPick, exUn, exBeq, exMM, exSeq, seqGo, exExt, binV, intOp, subc, AV.solid, S0, encI, encB, e5, e0, e1, encIs, hlt, hlb, hc, hr]
          exact FzK_B false _
      · have hab : a = b := by
          rw [List.take_of_length_le (by omega), List.take_of_length_le (by omega)] at hp; exact hp
        have hr : (a == b) = true := by simp [hab]
        simp [Z0h, Z0c, Z0d, Z09, Z0a, Z0i, Z0b, Z0f, Z0g, Z2z, Z2y, Z07, Z08, Z06, Z01, Z02, Z00, Z04, Z05, Z03, Z1z, Z1y, Z46, Z48, Z47, Z45, Z1n, Z1o, Z1m, Z3n, Z3k, Z3m, Z3l, Z3o, Z1l, Z29, Z32, Z3x, Z1i, Z1j, Z1k, Z3v, Z3w, Z1g, Z28, Z1h, Z3i, Z3f, Z3h, Z3g, Z3j, Z41, Z40, Z0t, Z0u, Z0v, Z0s, Z1f, Z4c, Z4b, Z4d, Z4a, Z49, ex, Z43, Z42, ev_t, ev_c, Z27, Z26, Z4e, Z4f, Z2m, Z2l, Z2f, Z2j, Z2k, Z2g, Z2h, Z2i, putc, exBslice, lfill, exField, exIdxV, exIdxP, exBox, exAlloc, exLoad, exStore, exFieldA, exIdxA, exLen, exPick, exUn, exBeq, exMM, exSeq, seqGo, exExt, binV, intOp, subc, AV.solid, S0, encI, encB, e5, e0, e1, encIs, hlt, hr]
        exact FzK_B true _
  · have hr : (a == b) = false := beq_false_of_ne (by rintro rfl; exact hl rfl)
    have hc : ((a.length : Int) != b.length) = true := by simp; omega
    simp [Z0h, Z0c, Z0d, Z09, Z0a, Z0i, Z0b, Z0f, Z0g, Z2z, Z2y, Z07, Z08, Z06, Z01, Z02, Z00, Z04, Z05, Z03, Z1z, Z1y, Z46, Z48, Z47, Z45, Z1n, Z1o, Z1m, Z3n, Z3k, Z3m, Z3l, Z3o, Z1l, Z29, Z32, Z3x, Z1i, Z1j, Z1k, Z3v, Z3w, Z1g, Z28, Z1h, Z3i, Z3f, Z3h, Z3g, Z3j, Z41, Z40, Z0t, Z0u, Z0v, Z0s, Z1f, Z4c, Z4b, Z4d, Z4a, Z49, ex, Z43, Z42, ev_t, ev_c, Z27, Z26, Z4e, Z4f, Z2m, Z2l, Z2f, Z2j, Z2k, Z2g, Z2h, Z2i, putc, exBslice, lfill, exField, exIdxV, exIdxP, exBox, exAlloc, exLoad, exStore, exFieldA, exIdxA, exLen, exPick, exUn, exBeq, exMM, exSeq, seqGo, exExt, binV, intOp, subc, AV.solid, S0, encI, encB, c_caesuraref01_Ints, encIs, hc, hr]
    exact FzK_B false _
end Go.Rf


/- Own work: the library's contracts of slices.Sort and slices.Compact, at the level of abstract values. -/
set_option linter.unusedVariables false
set_option linter.unusedSimpArgs false
namespace Go.Rf
open Go.RowKit Go.Sort

theorem Sim.widen {E : Env} {S : St} {w w' : World} (h : Sim E S w) (hw : ∀ b, b < w.heap.size → w'.heap[b]? = w.heap[b]?) : Sim E S w' := by
  refine ⟨fun b cs e => ?_, fun id k e => ?_, h.dis, h.fresh⟩
  · rw [hw b (h.H_lt e)]; exact h.hH b cs e
  · obtain ⟨l, a1, a2, a3⟩ := h.live id k e
    exact ⟨l, a1, a2, a3.mono (Env.le_refl _) (hw _ a3.lt)⟩
theorem putRow_at {w : World} {b o : Nat} {d : Array Int} {cs : Array Value} {el : TypeId} {fz : Nat × Nat} (h : w.heap[b]? = some (.cells cs el fz)) :
    (putRow (Value.int .i64) w b o d).heap[b]? = some (.cells (putCells (Value.int .i64) o d cs) el fz) := by
  simp only [putRow, mapBlock, Array.getElem?_modify, if_true, h, Option.map_some, onCells]
theorem putRow_other {w : World} {b o : Nat} {d : Array Int} (c : Nat) (h : c ≠ b) : (putRow (Value.int .i64) w b o d).heap[c]? = w.heap[c]? := by
  simp only [putRow, mapBlock, Array.getElem?_modify]
  rw [if_neg (Ne.symm h)]
theorem putCells_at {o : Nat} {d : Array Int} {cs : Array Value} (k : Nat) : (putCells (Value.int .i64) o d cs)[k]? = (cs[k]?).map fun x => if o ≤ k ∧ k < o + d.size then Value.int .i64 d[k - o]! else x := by
  simp only [putCells, Array.getElem?_mapIdx]
theorem putRow_size {w : World} {b o : Nat} {d : Array Int} : (putRow (Value.int .i64) w b o d).heap.size = w.heap.size := by
  simp [putRow, mapBlock]
theorem flat_encI : ∀ q : List Int, flat (q.map encI) = q.map encI
  | [] => rfl
  | x :: q => by
    have ih := flat_encI q
    simp only [List.map_cons, flat, List.flatMap_cons] at ih ⊢
    rw [ih]; rfl
/-- A call that writes into a list of one's own, and hands back that it did, or its beginning. -/
theorem CallR.rewrite {P : Program} {f : FuncId} (hcal : Callable P f) {S : St} {id off : Nat} {ys : List AV} {l l' : List Int} (hg : S.g id = some (.arr 1 ys)) (hd : ys.drop off = l.map encI) (hne : l ≠ []) (hl : l'.length = l.length) (m : Nat) (hm : m ≤ l'.length)
    (res : Nat → Nat → Nat → Value) (r : AV) (hres : (r = .tup [] ∧ ∀ b o cap, res b o cap = .tuple #[]) ∨ (r = .own id off m ∧ 0 < m ∧ ∀ b o cap, res b o cap = .slice (some ⟨b, o, none⟩) m cap))
    (hc : ∀ b o cap w, Holds (Value.int .i64) w b o l.toArray → b < w.heap.size → l.length ≤ cap → Calls P f #[.slice (some ⟨b, o, none⟩) l.length cap] w fun e w' => e = .returned (res b o cap) ∧ ∃ n os, w' = grow (putRow (Value.int .i64) (Sort.ahead w n) b o l'.toArray) os)
    {K : AV → St → Prop} (hk : K r (S.set id (some (.arr 1 (ys.take off ++ (l'.take m).map encI))))) : CallR P f [.own id off l.length] S K := by
  refine ⟨hcal, fun E w vals hG hS hv => ?_⟩
  have hlen : 0 < l.length := List.length_pos_iff.mpr hne
  obtain ⟨loc, hρ, hN, hok⟩ := hS.live id _ hg
  have hlt := hok.lt
  obtain ⟨hes, htot, hc1, hat, cs, el, hheap, hsize, hcells⟩ := hok
  have hoff : off + l.length = ys.length := by have := congrArg List.length hd; simp at this; omega
  have hfl : (flat ys).length = ys.length := by rw [length_flat hc1]; omega
  have hfd : (flat ys).drop off = l.map encI := by
    have h1 := flat_drop hc1 off
    rw [hd] at h1
    rw [flat_encI, Nat.mul_one] at h1; exact h1.symm
  -- the value that is handed over
  obtain ⟨hvs, hvj⟩ := hv
  have hv0 := hvj 0 (by simp)
  simp only [List.getElem_cons_zero] at hv0
  clear hvj
  have hvals : vals = #[vals.getD 0 undef] := by
    apply Array.ext
    · simpa using hvs
    · intro i h1 h2
      have : i = 0 := by simp at h2; exact h2
      subst this
      simp [Array.getD_eq_getD_getElem?, h1]
  generalize hva : vals.getD 0 undef = va at hv0 hvals
  subst hvals
  cases hv0 with
  | own _ _ _ A cap l0 hl0 hle hA =>
    rw [hρ] at hl0; cases hl0
    obtain ⟨hA1, hA2⟩ := hA (by omega)
    subst hA1
    have hget : ∀ j (hj : j < l.length), cs[loc.o + off * loc.es + j]? = some (.int .i64 (l[j])) := by
      intro j hj
      obtain ⟨u, a1, a2⟩ := hcells (off + j) (by omega)
      have e : (flat ys)[off + j]'(by omega) = encI (l[j]) := by
        have : ((flat ys).drop off)[j]'(by simp; omega) = encI l[j] := by simp [hfd]
        rw [List.getElem_drop] at this; exact this
      rw [e] at a2
      have := a2.v_inv
      rw [hes, Nat.mul_one, Nat.add_assoc, a1, this]
    have hH : Holds (Value.int .i64) w loc.b (loc.o + off * loc.es) l.toArray := by
      intro j hj
      have hj' : j < l.length := by simpa using hj
      refine ⟨?_, ?_⟩
      · rw [cell_of_heap hheap, hget j hj']
        simp [hj']
      · simp [World.frozen?, hheap]
    refine (hc loc.b (loc.o + off * loc.es) cap w hH hlt hle).mono ?_
    rintro e w' ⟨rfl, n, os, rfl⟩
    let w1 := putRow (Value.int .i64) (Sort.ahead w n) loc.b (loc.o + off * loc.es) l'.toArray
    have hw1b : w1.heap[loc.b]? = some (.cells (putCells (Value.int .i64) (loc.o + off * loc.es) l'.toArray cs) el (0, 0)) := putRow_at (w := Sort.ahead w n) hheap
    have hw1o : ∀ b, b ≠ loc.b → w1.heap[b]? = w.heap[b]? := fun b hb => putRow_other (w := Sort.ahead w n) b hb
    have hw1s : w1.heap.size = w.heap.size := putRow_size (w := Sort.ahead w n)
    have hfn : flat (ys.take off ++ (l'.take m).map encI) = (flat ys).take off ++ (l'.take m).map encI := by
      rw [flat_append]
      have h1 := flat_take hc1 off
      rw [h1, flat_encI, Nat.mul_one]
    have hblk : BlkOk E w1 loc (.arr 1 (ys.take off ++ (l'.take m).map encI)) := by
      refine ⟨hes, ?_, ?_, ?_, _, el, hw1b, ?_, ?_⟩
      · simp; omega
      · intro x hx
        rcases List.mem_append.mp hx with hx | hx
        · exact hc1 x (List.mem_of_mem_take hx)
        · obtain ⟨z, _, rfl⟩ := List.mem_map.mp hx; rfl
      · intro y hy
        rw [hfn] at hy
        rcases List.mem_append.mp hy with hy | hy
        · exact hat y (List.mem_of_mem_take hy)
        · obtain ⟨z, _, rfl⟩ := List.mem_map.mp hy; rfl
      · simp only [putCells, Array.size_mapIdx]; exact hsize
      · intro k hkk
        have hkl : k < off + m := by rw [hfn] at hkk; simp at hkk; omega
        have hk2 : k < (flat ys).length := by omega
        obtain ⟨u, a1, a2⟩ := hcells k hk2
        simp only [hfn]
        by_cases hko : k < off
        · refine ⟨u, ?_, ?_⟩
          · rw [putCells_at, a1]
            simp only [Option.map_some]
            rw [if_neg (by rw [hes]; omega)]
          · rw [List.getElem_append_left (by simp; omega), List.getElem_take]; exact a2
        · have hkm : k - off < l'.length := by omega
          refine ⟨.int .i64 (l'[k - off]), ?_, ?_⟩
          · rw [putCells_at, a1]
            simp only [Option.map_some]
            rw [if_pos (by rw [hes]; simp; omega)]
            have e1 : loc.o + k - (loc.o + off * loc.es) = k - off := by rw [hes]; omega
            simp [e1, hkm]
          · have hmin : min off (flat ys).length = off := by omega
            rw [List.getElem_append_right (by simp; omega)]
            simp only [List.length_take, hmin, List.getElem_map, List.getElem_take]
            exact .v _ rfl
    have hS1 : Sim E (S.set id (some (.arr 1 (ys.take off ++ (l'.take m).map encI)))) w1 := hS.write hg hρ hw1o hblk
    have hgr : ∀ b, b < w1.heap.size → (grow w1 os).heap[b]? = w1.heap[b]? := by
      intro b hb
      simp only [grow]
      rw [Array.getElem?_append_left hb]
    have hS2 := hS1.widen hgr
    have ev1 : Evo E S w E (S.set id (some (.arr 1 (ys.take off ++ (l'.take m).map encI)))) w1 := Evo.write hg hρ rfl rfl rfl hw1s hw1o
    have ev2 : Evo E (S.set id (some (.arr 1 (ys.take off ++ (l'.take m).map encI)))) w1 E (S.set id (some (.arr 1 (ys.take off ++ (l'.take m).map encI)))) (grow w1 os) :=
      ⟨rfl, rfl, rfl, by simp [grow], fun b hb _ => hgr b hb, fun i l k hk hl => .inr ⟨i, l, k, hk, hl, rfl⟩, Env.le_refl _, fun _ _ e => .inl e⟩
    refine ⟨_, r, _, E, rfl, hk, hS2, ?_, ⟨ev1.trans ev2, Nat.le_refl _, fun _ _ e => e⟩⟩
    rcases hres with ⟨rfl, h1⟩ | ⟨rfl, h0, h1⟩
    · rw [h1]; exact .tup _ _ rfl (by simp)
    · rw [h1]; exact .own id off m _ cap loc hρ (by omega) (fun _ => ⟨rfl, hA2⟩)
/-- The library's contracts of slices.Sort and slices.Compact, at []int. -/
def HSort (P : Program) (f : FuncId) : Prop := ∀ (S : St) (id off : Nat) (ys : List AV) (l : List Int) (K : AV → St → Prop), S.g id = some (.arr 1 ys) → ys.drop off = l.map encI → l ≠ [] → l.length ≤ 1000000 →
  K (.tup []) (S.set id (some (.arr 1 (ys.take off ++ (l.mergeSort fun x y => decide (x ≤ y)).map encI)))) → CallR P f [.own id off l.length] S K
def HComp (P : Program) (f : FuncId) : Prop := ∀ (S : St) (id off : Nat) (ys : List AV) (l : List Int) (K : AV → St → Prop), S.g id = some (.arr 1 ys) → ys.drop off = l.map encI → l ≠ [] → l.length ≤ 1000000 →
  K (.own id off (Lib.compact l).length) (S.set id (some (.arr 1 (ys.take off ++ (Lib.compact l).map encI)))) → CallR P f [.own id off l.length] S K
end Go.Rf

