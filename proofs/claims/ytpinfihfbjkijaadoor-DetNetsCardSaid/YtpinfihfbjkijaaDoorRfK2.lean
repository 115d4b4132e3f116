import Derived.Test.YtpinfihfbjkijaaDoorRfN4
import Derived.Test.YtpinfihfbjkijaaDoorRfKl
/- Own work: automata, the other way round: beginnings that are accepted. -/
set_option linter.unusedVariables false
set_option linter.unusedSimpArgs false
namespace Go.Rf
open Go.RowKit

structure HdS (n : Net) (l : List Int) (ft f1 : FuncId) (b c : Nat) (i : Nat) (f : AF) (S : St) : Prop where
  e1 : f 1 = encIs l
  e2 : f 2 = .clo ft [] [.ptr c 0 0]
  e3 : f 3 = .ptr b 0 0
  e6 : IsSl (f 6) (runN n (l.take i))
  e7 : f 7 = .clo f1 [] [.ptr b 0 0]
  e8 : f 8 = encI i
  gb : S.g b = some (.arr 4 [encNet n])
  bc : b ≠ c
  bn : b < S.n
  cn : c < S.n
theorem HdS.same {n : Net} {l : List Int} {ft f1 : FuncId} {b c i : Nat} {f f' : AF} {S S' : St} (h : HdS n l ft f1 b c i f S) (hf : ∀ j, j = 1 ∨ j = 2 ∨ j = 3 ∨ j = 6 ∨ j = 7 ∨ j = 8 → f' j = f j) (hg : S'.g b = S.g b) (hn : S.n ≤ S'.n) : HdS n l ft f1 b c i f' S' :=
  ⟨by rw [hf _ (by simp)]; exact h.e1, by rw [hf _ (by simp)]; exact h.e2, by rw [hf _ (by simp)]; exact h.e3, by rw [hf _ (by simp)]; exact h.e6, by rw [hf _ (by simp)]; exact h.e7, by rw [hf _ (by simp)]; exact h.e8, by rw [hg]; exact h.gb, h.bc, by have := h.bn; omega, by have := h.cn; omega⟩
structure HHd (P : Program) (n : Net) (fr f1 fc fs : FuncId) : Prop where
  right : PureC P fr [encNet n] (encB (rightN n))
  cont : ∀ a : List Int, Len a → PureC P fc [encIs a, .clo f1 [] [.eptr (encNet n) 0]] (encB (a.any fun s => n.last.contains s))
  step : RightN n → ∀ (a : List Int) s, a.length ≤ 3000 → PureC P fs [encNet n, encIs a, encI s] (encIs (stepN n a s))
end Go.Rf


/- Own work: lists, the other way round. -/
set_option linter.unusedVariables false
set_option linter.unusedSimpArgs false
namespace Go.Rf
open Go.RowKit

def c_caesuraref14_Heads (f_caesuraref13_Accepts : FuncId) : AC :=
  (.seq (.reg none [
   ⟨(some 2), .box 4 (.t 0), none, none⟩,
   ⟨(some 4), .mv (.c (.sl true [])), none, none⟩])
  (.seq (.reg none [
   ⟨(some 5), .mv (.c (.sl true [])), none, none⟩])
  (.seq (.seq (.reg none [
   ⟨(some 6), .mv (.c (.v (.int .i64 0))), none, none⟩])
  (.block 0 (.loop (.seq (.seq (.reg none [
     ⟨(some 7), .mv (.t 6), none, none⟩,
     ⟨(some 8), .mv (.t 1), none, none⟩,
     ⟨(some 9), .len (.t 8), none, none⟩,
     ⟨(some 10), .bin .leq (.t 7) (.t 9), none, none⟩])
    (.cond (.t 10) .skip (.exit 0)))
    (.seq (.block 1 (.seq (.reg (some []) [
      ⟨(some 13), .load (some 4) (.t 2), none, none⟩,
      ⟨(some 14), .mv (.t 1), none, none⟩,
      ⟨(some 15), .mv (.t 6), none, none⟩,
      ⟨(some 16), .slc 1 (.t 14) none (some (.t 15)), none, none⟩,
      ⟨(some 17), .mv (.c .junk), none, (some ((.c (.clo f_caesuraref13_Accepts [] [])), [(.t 13), (.t 16)]))⟩])
     (.cond (.t 17) (.reg none [
       ⟨(some 18), .mv (.t 5), none, none⟩,
       ⟨(some 19), .mv (.t 6), none, none⟩,
       ⟨(some 20), .bslice 1 1 (.v (.int .i64 0)) [(0, (.t 19))], none, none⟩,
       ⟨(some 21), .app 1 8 (.t 18) (.t 20), none, none⟩,
       ⟨(some 5), .mv (.t 21), none, none⟩]) .skip)))
    (.reg none [
     ⟨(some 11), .mv (.t 6), none, none⟩,
     ⟨(some 12), .bin .add (.t 11) (.c (.v (.int .i64 1))), none, none⟩,
     ⟨(some 6), .mv (.t 12), none, none⟩]))))))
  (.seq (.reg none [
   ⟨(some 22), .mv (.t 5), none, none⟩,
   ⟨(some 4), .mv (.t 22), none, none⟩])
  .ret))))
def c_caesuraref14_Tails (f_caesuraref13_Accepts : FuncId) : AC :=
  (.seq (.reg none [
   ⟨(some 2), .box 4 (.t 0), none, none⟩,
   ⟨(some 4), .mv (.c (.sl true [])), none, none⟩])
  (.seq (.reg none [
   ⟨(some 5), .mv (.c (.sl true [])), none, none⟩])
  (.seq (.seq (.reg none [
   ⟨(some 6), .mv (.c (.v (.int .i64 0))), none, none⟩])
  (.block 0 (.loop (.seq (.seq (.reg none [
     ⟨(some 7), .mv (.t 6), none, none⟩,
     ⟨(some 8), .mv (.t 1), none, none⟩,
     ⟨(some 9), .len (.t 8), none, none⟩,
     ⟨(some 10), .bin .leq (.t 7) (.t 9), none, none⟩])
    (.cond (.t 10) .skip (.exit 0)))
    (.seq (.block 1 (.seq (.reg (some []) [
      ⟨(some 13), .load (some 4) (.t 2), none, none⟩,
      ⟨(some 14), .mv (.t 1), none, none⟩,
      ⟨(some 15), .mv (.t 1), none, none⟩,
      ⟨(some 16), .len (.t 15), none, none⟩,
      ⟨(some 17), .mv (.t 6), none, none⟩,
      ⟨(some 18), .bin .sub (.t 16) (.t 17), none, none⟩,
      ⟨(some 19), .slc 1 (.t 14) (some (.t 18)) none, none, none⟩,
      ⟨(some 20), .mv (.c .junk), none, (some ((.c (.clo f_caesuraref13_Accepts [] [])), [(.t 13), (.t 19)]))⟩])
     (.cond (.t 20) (.reg none [
       ⟨(some 21), .mv (.t 5), none, none⟩,
       ⟨(some 22), .mv (.t 6), none, none⟩,
       ⟨(some 23), .bslice 1 1 (.v (.int .i64 0)) [(0, (.t 22))], none, none⟩,
       ⟨(some 24), .app 1 8 (.t 21) (.t 23), none, none⟩,
       ⟨(some 5), .mv (.t 24), none, none⟩]) .skip)))
    (.reg none [
     ⟨(some 11), .mv (.t 6), none, none⟩,
     ⟨(some 12), .bin .add (.t 11) (.c (.v (.int .i64 1))), none, none⟩,
     ⟨(some 6), .mv (.t 12), none, none⟩]))))))
  (.seq (.reg none [
   ⟨(some 25), .mv (.t 5), none, none⟩,
   ⟨(some 4), .mv (.t 25), none, none⟩])
  .ret))))
theorem slc_hi (l : List Int) (t : Bool) (i : Nat) (h : i ≤ l.length) (S : St) (nid : Nat) : ∃ t', (exSlc 1 (.sl t (l.map encI)) none (some (.v (.int .i64 (i : Int))))).run S nid = some (.sl t' ((l.take i).map encI), S) := by
  have hc : ∀ y ∈ l.map encI, y.cells.length = 1 := cells_I l
  refine ⟨(t && ((some (AV.v (.int .i64 (i : Int)))).isNone || i == (l.map encI).length)), ?_⟩
  simp only [exSlc, Eff.run_val, bnd, Option.bind_some, Int.toNat_natCast]
  rw [if_pos (by omega)]
  simp only [Option.bind_some]
  rw [if_pos ⟨by omega, by simpa using h, hc⟩]
  simp [List.map_take]
theorem slc_lo (l : List Int) (t : Bool) (i : Nat) (h : i ≤ l.length) (S : St) (nid : Nat) : ∃ t', (exSlc 1 (.sl t (l.map encI)) (some (.v (.int .i64 (i : Int)))) none).run S nid = some (.sl t' ((l.drop i).map encI), S) := by
  have hc : ∀ y ∈ l.map encI, y.cells.length = 1 := cells_I l
  refine ⟨(t && ((none : Option AV).isNone || (l.map encI).length == (l.map encI).length)), ?_⟩
  simp only [exSlc, Eff.run_val, bnd, Option.bind_some, Int.toNat_natCast]
  rw [if_pos (by omega)]
  simp only [Option.bind_some]
  rw [if_pos ⟨by simpa using h, by omega, hc⟩]
  simp [List.map_drop, List.take_of_length_le]
def filtL (p : Nat → Bool) (i : Nat) : List Int := ((List.range i).filter p).map Int.ofNat
theorem filtL_succ (p : Nat → Bool) (i : Nat) : filtL p (i + 1) = filtL p i ++ (if p i = true then [(i : Int)] else []) := by
  unfold filtL
  rw [List.range_succ, List.filter_append, List.map_append]
  congr 1
  by_cases h : p i = true <;> simp [h]
theorem filtL_len (p : Nat → Bool) (i : Nat) : (filtL p i).length ≤ i := by
  unfold filtL
  rw [List.length_map]
  have := List.length_filter_le p (List.range i)
  simpa using this
def tlP (n : Net) (l : List Int) (i : Nat) : Bool := accN n (l.drop (l.length - i))
def hdP (n : Net) (l : List Int) (i : Nat) : Bool := accN n (l.take i)
def rhI (n : Net) (l : List Int) (p : Nat → Bool) (i : Nat) (f : AF) (S : St) : Prop := f 1 = encIs l ∧ f 2 = .ptr 0 0 0 ∧ f 6 = encI i ∧ S.g 0 = some (.arr 4 [encNet n]) ∧ Vec S.g (f 5) 1 ((filtL p i).map encI) ∧ 0 ∉ (f 5).ids ∧ 1 ≤ S.n
theorem Heads14_body {P : Program} {fa : FuncId} (n : Net) (l : List Int) (hl : l.length ≤ 1000000) (ha : ∀ m : List Int, m.length ≤ l.length → PureC P fa [encNet n, encIs m] (encB (accN n m))) : AW P (c_caesuraref14_Heads fa) (RetK [4] (FzK (encIs (filtL (hdP n l) (l.length + 1))))) (argF [encNet n, encIs l]) S0 := by
  simp [Z0j, Z0e, Z0f, Z0b, Z0c, Z0k, Z0d, Z0h, Z0i, Z3a, Z39, Z08, Z0a, Z07, Z01, Z03, Z00, Z05, Z06, Z04, Z26, Z25, Z4q, Z4s, Z4r, Z4p, Z1u, Z1v, Z1t, Z40, Z3x, Z3z, Z3y, Z41, Z1s, Z2j, Z3d, Z4f, Z1k, Z1l, Z1m, Z4d, Z4e, Z1i, Z2i, Z1j, Z3v, Z3s, Z3u, Z3t, Z3w, Z4l, Z4k, Z0v, Z0w, Z0x, Z0u, Z1h, Z4w, Z4v, Z4x, Z4u, Z4t, ex, Z4n, Z4m, ev_t, ev_c, Z2h, Z2g, Z4y, Z4z, Z2x, Z2w, Z2q, Z2u, Z2v, Z2r, Z2s, Z2t, putc, exBslice, lfill, exField, exIdxV, exIdxP, exBox, exAlloc, exLoad, exStore, exFieldA, exIdxA, exLen, exPick, exUn, exBeq, exMM, exSeq, seqGo, exExt, binV, intOp, subc, AV.solid, S0, encI, encB, c_caesuraref14_Heads, encNet]
  refine AW_for (l.length + 1) (rhI n l (hdP n l)) ?_ ?_
  · refine ⟨?_, ?_, ?_, ?_, ?_, ?_, ?_⟩
    · simp [Z4n, Z2h, Z2g, encIs]
    · simp [Z4n]
    · simp [Z4n, encI]
    · simp [Z4y, encNet, encI]
    · simp [Z4n, filtL]; exact .nil
    · simp [Z4n, AV.ids]
    · simp
  · rintro i f S hi ⟨e1, e2, e6, g0, hv, ho, hn⟩
    have g0' := g0
    simp only [encNet] at g0
    by_cases hlt : i ≤ l.length
    · have hlt' : (i : Int) ≤ l.length := by omega
      have hsub : IntKind.i64.wrap ((l.length : Int) - (i : Int)) = ((l.length - i : Nat) : Int) := by rw [wrap_in _ (by omega)]; omega
      have hcast : ((l.length : Int) - (i : Int)) = ((l.length - i : Nat) : Int) := by omega
      obtain ⟨t, hs⟩ : ∃ t, ∀ S nid, (exSlc 1 (.sl false (l.map encI)) none (some (.v (.int .i64 (i : Int))))).run S nid = some (.sl t ((l.take i).map encI), S) := by
        obtain ⟨t, h⟩ := slc_hi l false i (by omega) S 0
        refine ⟨t, fun S' nid => ?_⟩
        obtain ⟨t', h'⟩ := slc_hi l false i (by omega) S' nid
        have : t' = t := by
          simp only [exSlc, Eff.run_val, bnd, Option.bind_some] at h h'
          have e1 := h'
          have e2 := h
          simp only [Option.map_eq_some_iff, Prod.mk.injEq] at e1 e2
          obtain ⟨v1, a1, b1, _⟩ := e1
          obtain ⟨v2, a2, b2, _⟩ := e2
          rw [a1] at a2
          have : v1 = v2 := Option.some.inj a2
          rw [b1, b2] at this
          exact (AV.sl.inj this).1
        rw [this] at h'; exact h'
      have ka := ha (l.take i) (by first | (simp; done) | (simp; omega))
      have ka' : PureC P fa [encNet n, .sl t ((l.take i).map encI)] (encB (accN n (l.take i))) :=
        ka.weak rfl (fun j h1 h2 E v hv => by
          match j with
          | 0 => exact hv
          | 1 => exact hv.loose
          | j + 2 => simp at h1; omega)
      have ca := cl_cons (closed_Net n) (cl_cons (closed_map (t := t) Z32 (l.take i)) cl_nil)
      simp only [encNet, encI, encIs, List.map_take, List.map_drop] at ka' ca
      have da : ∀ m g', CallD P fa [.agg [.v (.int .i64 n.signs), encIss n.by_, encIss n.follow, .sl false (n.last.map encI)], .sl t ((l.map encI).take i)] ⟨m, g'⟩ [] (encB (accN n (l.take i))) := fun m g' => CallD.kl ka' ca (Z2z _)
      have hfl := filtL_len (hdP n l) i
      have hsucc := filtL_succ (hdP n l) i
      have hp : hdP n l i = accN n (l.take i) := rfl
      simp [Z0j, Z0e, Z0f, Z0b, Z0c, Z0k, Z0d, Z0h, Z0i, Z3a, Z39, Z08, Z0a, Z07, Z01, Z03, Z00, Z05, Z06, Z04, Z26, Z25, Z4q, Z4s, Z4r, Z4p, Z1u, Z1v, Z1t, Z40, Z3x, Z3z, Z3y, Z41, Z1s, Z2j, Z3d, Z4f, Z1k, Z1l, Z1m, Z4d, Z4e, Z1i, Z2i, Z1j, Z3v, Z3s, Z3u, Z3t, Z3w, Z4l, Z4k, Z0v, Z0w, Z0x, Z0u, Z1h, Z4w, Z4v, Z4x, Z4u, Z4t, ex, Z4n, Z4m, ev_t, ev_c, Z2h, Z2g, Z4y, Z4z, Z2x, Z2w, Z2q, Z2u, Z2v, Z2r, Z2s, Z2t, putc, exBslice, lfill, exField, exIdxV, exIdxP, exBox, exAlloc, exLoad, exStore, exFieldA, exIdxA, exLen, exPick, exUn, exBeq, exMM, exSeq, seqGo, exExt, binV, intOp, subc, AV.solid, S0, encI, encB, e1, e2, e6, g0, hlt, hlt', encIs,  hs]
      refine ⟨_, ⟨_, da _ _⟩, ?_⟩
      cases hb : accN n (l.take i) with
      | false =>
        rw [hp, hb] at hsucc
        simp only [Bool.false_eq_true, if_false, List.append_nil] at hsucc
        simp [Z0j, Z0e, Z0f, Z0b, Z0c, Z0k, Z0d, Z0h, Z0i, Z3a, Z39, Z08, Z0a, Z07, Z01, Z03, Z00, Z05, Z06, Z04, Z26, Z25, Z4q, Z4s, Z4r, Z4p, Z1u, Z1v, Z1t, Z40, Z3x, Z3z, Z3y, Z41, Z1s, Z2j, Z3d, Z4f, Z1k, Z1l, Z1m, Z4d, Z4e, Z1i, Z2i, Z1j, Z3v, Z3s, Z3u, Z3t, Z3w, Z4l, Z4k, Z0v, Z0w, Z0x, Z0u, Z1h, Z4w, Z4v, Z4x, Z4u, Z4t, ex, Z4n, Z4m, ev_t, ev_c, Z2h, Z2g, Z4y, Z4z, Z2x, Z2w, Z2q, Z2u, Z2v, Z2r, Z2s, Z2t, putc, exBslice, lfill, exField, exIdxV, exIdxP, exBox, exAlloc, exLoad, exStore, exFieldA, exIdxA, exLen, exPick, exUn, exBeq, exMM, exSeq, seqGo, exExt, binV, intOp, subc, AV.solid, S0, encI, encB, e6]
        rw [wrap_in _ (by omega)]
        refine ⟨by omega, ?_, ?_, ?_, g0', ?_, ?_, ?_⟩
        · simp [Z4n, e1, encIs]
        · simp [Z4n, e2]
        · simp [Z4n, encI]
        · rw [hsucc]; simp [Z4n]; exact hv.frame (fun _ _ => rfl)
        · simp [Z4n]; exact ho
        · simp
      | true =>
        rw [hp, hb] at hsucc
        simp only [if_true] at hsucc
        simp [Z0j, Z0e, Z0f, Z0b, Z0c, Z0k, Z0d, Z0h, Z0i, Z3a, Z39, Z08, Z0a, Z07, Z01, Z03, Z00, Z05, Z06, Z04, Z26, Z25, Z4q, Z4s, Z4r, Z4p, Z1u, Z1v, Z1t, Z40, Z3x, Z3z, Z3y, Z41, Z1s, Z2j, Z3d, Z4f, Z1k, Z1l, Z1m, Z4d, Z4e, Z1i, Z2i, Z1j, Z3v, Z3s, Z3u, Z3t, Z3w, Z4l, Z4k, Z0v, Z0w, Z0x, Z0u, Z1h, Z4w, Z4v, Z4x, Z4u, Z4t, ex, Z4n, Z4m, ev_t, ev_c, Z2h, Z2g, Z4y, Z4z, Z2x, Z2w, Z2q, Z2u, Z2v, Z2r, Z2s, Z2t, putc, exBslice, lfill, exField, exIdxV, exIdxP, exBox, exAlloc, exLoad, exStore, exFieldA, exIdxA, exLen, exPick, exUn, exBeq, exMM, exSeq, seqGo, exExt, binV, intOp, subc, AV.solid, S0, encI, encB, e6]
        rw [Vec.app (xs := (filtL (hdP n l) i).map encI) (hv.frame (fun _ _ => rfl)) (cells_I _) (by simp [AV.cells]) (appOk8 (by rw [List.length_map]; omega))]
        simp [Z0j, Z0e, Z0f, Z0b, Z0c, Z0k, Z0d, Z0h, Z0i, Z3a, Z39, Z08, Z0a, Z07, Z01, Z03, Z00, Z05, Z06, Z04, Z26, Z25, Z4q, Z4s, Z4r, Z4p, Z1u, Z1v, Z1t, Z40, Z3x, Z3z, Z3y, Z41, Z1s, Z2j, Z3d, Z4f, Z1k, Z1l, Z1m, Z4d, Z4e, Z1i, Z2i, Z1j, Z3v, Z3s, Z3u, Z3t, Z3w, Z4l, Z4k, Z0v, Z0w, Z0x, Z0u, Z1h, Z4w, Z4v, Z4x, Z4u, Z4t, ex, Z4n, Z4m, ev_t, ev_c, Z2h, Z2g, Z4y, Z4z, Z2x, Z2w, Z2q, Z2u, Z2v, Z2r, Z2s, Z2t, putc, exBslice, lfill, exField, exIdxV, exIdxP, exBox, exAlloc, exLoad, exStore, exFieldA, exIdxA, exLen, exPick, exUn, exBeq, exMM, exSeq, seqGo, exExt, binV, intOp, subc, AV.solid, S0, encI, encB, e6, without_n]
        rw [wrap_in _ (by omega)]
        refine ⟨by omega, ?_, ?_, ?_, ?_, ?_, ?_, ?_⟩
        · simp [Z4n, e1, encIs]
        · simp [Z4n, e2]
        · simp [Z4n, encI]
        · rw [Z4y, if_neg (by omega), without_g _ ho]; exact g0'
        · rw [hsucc, List.map_append]
          simp only [Z4n, if_true]
          exact .mk' (by simp [Z4y, encI]) (by simp)
        · simp [Z4n, AV.ids]
        · simp
    · have hlt' : ¬ (i : Int) ≤ l.length := by omega
      have hie : i = l.length + 1 := by omega
      simp [Z0j, Z0e, Z0f, Z0b, Z0c, Z0k, Z0d, Z0h, Z0i, Z3a, Z39, Z08, Z0a, Z07, Z01, Z03, Z00, Z05, Z06, Z04, Z26, Z25, Z4q, Z4s, Z4r, Z4p, Z1u, Z1v, Z1t, Z40, Z3x, Z3z, Z3y, Z41, Z1s, Z2j, Z3d, Z4f, Z1k, Z1l, Z1m, Z4d, Z4e, Z1i, Z2i, Z1j, Z3v, Z3s, Z3u, Z3t, Z3w, Z4l, Z4k, Z0v, Z0w, Z0x, Z0u, Z1h, Z4w, Z4v, Z4x, Z4u, Z4t, ex, Z4n, Z4m, ev_t, ev_c, Z2h, Z2g, Z4y, Z4z, Z2x, Z2w, Z2q, Z2u, Z2v, Z2r, Z2s, Z2t, putc, exBslice, lfill, exField, exIdxV, exIdxP, exBox, exAlloc, exLoad, exStore, exFieldA, exIdxA, exLen, exPick, exUn, exBeq, exMM, exSeq, seqGo, exExt, binV, intOp, subc, AV.solid, S0, encI, encB, e1, e2, e6, hlt, hlt', encIs]
      rw [← hie]
      exact (hv.frame (fun _ _ => rfl)).fz Z32
theorem Tails14_body {P : Program} {fa : FuncId} (n : Net) (l : List Int) (hl : l.length ≤ 1000000) (ha : ∀ m : List Int, m.length ≤ l.length → PureC P fa [encNet n, encIs m] (encB (accN n m))) : AW P (c_caesuraref14_Tails fa) (RetK [4] (FzK (encIs (filtL (tlP n l) (l.length + 1))))) (argF [encNet n, encIs l]) S0 := by
  simp [Z0j, Z0e, Z0f, Z0b, Z0c, Z0k, Z0d, Z0h, Z0i, Z3a, Z39, Z08, Z0a, Z07, Z01, Z03, Z00, Z05, Z06, Z04, Z26, Z25, Z4q, Z4s, Z4r, Z4p, Z1u, Z1v, Z1t, Z40, Z3x, Z3z, Z3y, Z41, Z1s, Z2j, Z3d, Z4f, Z1k, Z1l, Z1m, Z4d, Z4e, Z1i, Z2i, Z1j, Z3v, Z3s, Z3u, Z3t, Z3w, Z4l, Z4k, Z0v, Z0w, Z0x, Z0u, Z1h, Z4w, Z4v, Z4x, Z4u, Z4t, ex, Z4n, Z4m, ev_t, ev_c, Z2h, Z2g, Z4y, Z4z, Z2x, Z2w, Z2q, Z2u, Z2v, Z2r, Z2s, Z2t, putc, exBslice, lfill, exField, exIdxV, exIdxP, exBox, exAlloc, exLoad, exStore, exFieldA, exIdxA, exLen, exPick, exUn, exBeq, exMM, exSeq, seqGo, exExt, binV, intOp, subc, AV.solid, S0, encI, encB, c_caesuraref14_Tails, encNet]
  refine AW_for (l.length + 1) (rhI n l (tlP n l)) ?_ ?_
  · refine ⟨?_, ?_, ?_, ?_, ?_, ?_, ?_⟩
    · simp [Z4n, Z2h, Z2g, encIs]
    · simp [Z4n]
    · simp [Z4n, encI]
    · simp [Z4y, encNet, encI]
    · simp [Z4n, filtL]; exact .nil
    · simp [Z4n, AV.ids]
    · simp
  · rintro i f S hi ⟨e1, e2, e6, g0, hv, ho, hn⟩
    have g0' := g0
    simp only [encNet] at g0
    by_cases hlt : i ≤ l.length
    · have hlt' : (i : Int) ≤ l.length := by omega
      have hsub : IntKind.i64.wrap ((l.length : Int) - (i : Int)) = ((l.length - i : Nat) : Int) := by rw [wrap_in _ (by omega)]; omega
      have hcast : ((l.length : Int) - (i : Int)) = ((l.length - i : Nat) : Int) := by omega
      obtain ⟨t, hs⟩ : ∃ t, ∀ S nid, (exSlc 1 (.sl false (l.map encI)) (some (.v (.int .i64 ((l.length - i : Nat) : Int)))) none).run S nid = some (.sl t ((l.drop (l.length - i)).map encI), S) := by
        obtain ⟨t, h⟩ := slc_lo l false (l.length - i) (by omega) S 0
        refine ⟨t, fun S' nid => ?_⟩
        obtain ⟨t', h'⟩ := slc_lo l false (l.length - i) (by omega) S' nid
        have : t' = t := by
          simp only [exSlc, Eff.run_val, bnd, Option.bind_some] at h h'
          have e1 := h'
          have e2 := h
          simp only [Option.map_eq_some_iff, Prod.mk.injEq] at e1 e2
          obtain ⟨v1, a1, b1, _⟩ := e1
          obtain ⟨v2, a2, b2, _⟩ := e2
          rw [a1] at a2
          have : v1 = v2 := Option.some.inj a2
          rw [b1, b2] at this
          exact (AV.sl.inj this).1
        rw [this] at h'; exact h'
      have ka := ha (l.drop (l.length - i)) (by first | (simp; done) | (simp; omega))
      have ka' : PureC P fa [encNet n, .sl t ((l.drop (l.length - i)).map encI)] (encB (accN n (l.drop (l.length - i)))) :=
        ka.weak rfl (fun j h1 h2 E v hv => by
          match j with
          | 0 => exact hv
          | 1 => exact hv.loose
          | j + 2 => simp at h1; omega)
      have ca := cl_cons (closed_Net n) (cl_cons (closed_map (t := t) Z32 (l.drop (l.length - i))) cl_nil)
      simp only [encNet, encI, encIs, List.map_take, List.map_drop] at ka' ca
      have da : ∀ m g', CallD P fa [.agg [.v (.int .i64 n.signs), encIss n.by_, encIss n.follow, .sl false (n.last.map encI)], .sl t ((l.map encI).drop (l.length - i))] ⟨m, g'⟩ [] (encB (accN n (l.drop (l.length - i)))) := fun m g' => CallD.kl ka' ca (Z2z _)
      have hfl := filtL_len (tlP n l) i
      have hsucc := filtL_succ (tlP n l) i
      have hp : tlP n l i = accN n (l.drop (l.length - i)) := rfl
      simp [Z0j, Z0e, Z0f, Z0b, Z0c, Z0k, Z0d, Z0h, Z0i, Z3a, Z39, Z08, Z0a, Z07, Z01, Z03, Z00, Z05, Z06, Z04, Z26, Z25, Z4q, Z4s, Z4r, Z4p, Z1u, Z1v, Z1t, Z40, Z3x, Z3z, Z3y, Z41, Z1s, Z2j, Z3d, Z4f, Z1k, Z1l, Z1m, Z4d, Z4e, Z1i, Z2i, Z1j, Z3v, Z3s, Z3u, Z3t, Z3w, Z4l, Z4k, Z0v, Z0w, Z0x, Z0u, Z1h, Z4w, Z4v, Z4x, Z4u, Z4t, ex, Z4n, Z4m, ev_t, ev_c, Z2h, Z2g, Z4y, Z4z, Z2x, Z2w, Z2q, Z2u, Z2v, Z2r, Z2s, Z2t, putc, exBslice, lfill, exField, exIdxV, exIdxP, exBox, exAlloc, exLoad, exStore, exFieldA, exIdxA, exLen, exPick, exUn, exBeq, exMM, exSeq, seqGo, exExt, binV, intOp, subc, AV.solid, S0, encI, encB, e1, e2, e6, g0, hlt, hlt', encIs, hsub, hs]
      refine ⟨_, ⟨_, da _ _⟩, ?_⟩
      cases hb : accN n (l.drop (l.length - i)) with
      | false =>
        rw [hp, hb] at hsucc
        simp only [Bool.false_eq_true, if_false, List.append_nil] at hsucc
        simp [Z0j, Z0e, Z0f, Z0b, Z0c, Z0k, Z0d, Z0h, Z0i, Z3a, Z39, Z08, Z0a, Z07, Z01, Z03, Z00, Z05, Z06, Z04, Z26, Z25, Z4q, Z4s, Z4r, Z4p, Z1u, Z1v, Z1t, Z40, Z3x, Z3z, Z3y, Z41, Z1s, Z2j, Z3d, Z4f, Z1k, Z1l, Z1m, Z4d, Z4e, Z1i, Z2i, Z1j, Z3v, Z3s, Z3u, Z3t, Z3w, Z4l, Z4k, Z0v, Z0w, Z0x, Z0u, Z1h, Z4w, Z4v, Z4x, Z4u, Z4t, ex, Z4n, Z4m, ev_t, ev_c, Z2h, Z2g, Z4y, Z4z, Z2x, Z2w, Z2q, Z2u, Z2v, Z2r, Z2s, Z2t, putc, exBslice, lfill, exField, exIdxV, exIdxP, exBox, exAlloc, exLoad, exStore, exFieldA, exIdxA, exLen, exPick, exUn, exBeq, exMM, exSeq, seqGo, exExt, binV, intOp, subc, AV.solid, S0, encI, encB, e6]
        rw [wrap_in _ (by omega)]
        refine ⟨by omega, ?_, ?_, ?_, g0', ?_, ?_, ?_⟩
        · simp [Z4n, e1, encIs]
        · simp [Z4n, e2]
        · simp [Z4n, encI]
        · rw [hsucc]; simp [Z4n]; exact hv.frame (fun _ _ => rfl)
        · simp [Z4n]; exact ho
        · simp
      | true =>
        rw [hp, hb] at hsucc
        simp only [if_true] at hsucc
        simp [Z0j, Z0e, Z0f, Z0b, Z0c, Z0k, Z0d, Z0h, Z0i, Z3a, Z39, Z08, Z0a, Z07, Z01, Z03, Z00, Z05, Z06, Z04, Z26, Z25, Z4q, Z4s, Z4r, Z4p, Z1u, Z1v, Z1t, Z40, Z3x, Z3z, Z3y, Z41, Z1s, Z2j, Z3d, Z4f, Z1k, Z1l, Z1m, Z4d, Z4e, Z1i, Z2i, Z1j, Z3v, Z3s, Z3u, Z3t, Z3w, Z4l, Z4k, Z0v, Z0w, Z0x, Z0u, Z1h, Z4w, Z4v, Z4x, Z4u, Z4t, ex, Z4n, Z4m, ev_t, ev_c, Z2h, Z2g, Z4y, Z4z, Z2x, Z2w, Z2q, Z2u, Z2v, Z2r, Z2s, Z2t, putc, exBslice, lfill, exField, exIdxV, exIdxP, exBox, exAlloc, exLoad, exStore, exFieldA, exIdxA, exLen, exPick, exUn, exBeq, exMM, exSeq, seqGo, exExt, binV, intOp, subc, AV.solid, S0, encI, encB, e6]
        rw [Vec.app (xs := (filtL (tlP n l) i).map encI) (hv.frame (fun _ _ => rfl)) (cells_I _) (by simp [AV.cells]) (appOk8 (by rw [List.length_map]; omega))]
        simp [Z0j, Z0e, Z0f, Z0b, Z0c, Z0k, Z0d, Z0h, Z0i, Z3a, Z39, Z08, Z0a, Z07, Z01, Z03, Z00, Z05, Z06, Z04, Z26, Z25, Z4q, Z4s, Z4r, Z4p, Z1u, Z1v, Z1t, Z40, Z3x, Z3z, Z3y, Z41, Z1s, Z2j, Z3d, Z4f, Z1k, Z1l, Z1m, Z4d, Z4e, Z1i, Z2i, Z1j, Z3v, Z3s, Z3u, Z3t, Z3w, Z4l, Z4k, Z0v, Z0w, Z0x, Z0u, Z1h, Z4w, Z4v, Z4x, Z4u, Z4t, ex, Z4n, Z4m, ev_t, ev_c, Z2h, Z2g, Z4y, Z4z, Z2x, Z2w, Z2q, Z2u, Z2v, Z2r, Z2s, Z2t, putc, exBslice, lfill, exField, exIdxV, exIdxP, exBox, exAlloc, exLoad, exStore, exFieldA, exIdxA, exLen, exPick, exUn, exBeq, exMM, exSeq, seqGo, exExt, binV, intOp, subc, AV.solid, S0, encI, encB, e6, without_n]
        rw [wrap_in _ (by omega)]
        refine ⟨by omega, ?_, ?_, ?_, ?_, ?_, ?_, ?_⟩
        · simp [Z4n, e1, encIs]
        · simp [Z4n, e2]
        · simp [Z4n, encI]
        · rw [Z4y, if_neg (by omega), without_g _ ho]; exact g0'
        · rw [hsucc, List.map_append]
          simp only [Z4n, if_true]
          exact .mk' (by simp [Z4y, encI]) (by simp)
        · simp [Z4n, AV.ids]
        · simp
    · have hlt' : ¬ (i : Int) ≤ l.length := by omega
      have hie : i = l.length + 1 := by omega
      simp [Z0j, Z0e, Z0f, Z0b, Z0c, Z0k, Z0d, Z0h, Z0i, Z3a, Z39, Z08, Z0a, Z07, Z01, Z03, Z00, Z05, Z06, Z04, Z26, Z25, Z4q, Z4s, Z4r, Z4p, Z1u, Z1v, Z1t, Z40, Z3x, Z3z, Z3y, Z41, Z1s, Z2j, Z3d, Z4f, Z1k, Z1l, Z1m, Z4d, Z4e, Z1i, Z2i, Z1j, Z3v, Z3s, Z3u, Z3t, Z3w, Z4l, Z4k, Z0v, Z0w, Z0x, Z0u, Z1h, Z4w, Z4v, Z4x, Z4u, Z4t, ex, Z4n, Z4m, ev_t, ev_c, Z2h, Z2g, Z4y, Z4z, Z2x, Z2w, Z2q, Z2u, Z2v, Z2r, Z2s, Z2t, putc, exBslice, lfill, exField, exIdxV, exIdxP, exBox, exAlloc, exLoad, exStore, exFieldA, exIdxA, exLen, exPick, exUn, exBeq, exMM, exSeq, seqGo, exExt, binV, intOp, subc, AV.solid, S0, encI, encB, e1, e2, e6, hlt, hlt', encIs]
      rw [← hie]
      exact (hv.frame (fun _ _ => rfl)).fz Z32
end Go.Rf

