import Derived.Test.YtnlhbognechhcaaRfCell
import Derived.Test.YtnlhbognechhcaaRfB16
set_option linter.unusedVariables false
set_option linter.unusedSimpArgs false
namespace Go.Rf
def c_slices_IndexFunc : AC :=
  (.seq (.reg none [
   ⟨(some 4), .mv (.c (.v (.int .i64 0))), none, none⟩])
  (.seq (.seq (.reg none [
   ⟨(some 6), .mv (.t 0), none, none⟩,
   ⟨(some 7), .len (.t 6), none, none⟩,
   ⟨(some 8), .mv (.c (.v (.int .i64 0))), none, none⟩])
  (.block 0 (.loop (.seq (.reg none [
     ⟨(some 9), .bin .lss (.t 8) (.t 7), none, none⟩])
    (.seq (.cond (.t 9) .skip (.exit 0))
    (.seq (.block 1 (.seq (.reg none [
      ⟨(some 10), .mv (.t 8), none, none⟩,
      ⟨(some 5), .mv (.t 10), none, none⟩])
     (.seq (.reg none [
      ⟨(some 11), .mv (.t 1), none, none⟩,
      ⟨(some 12), .mv (.t 0), none, none⟩,
      ⟨(some 13), .mv (.t 5), none, none⟩,
      ⟨(some 14), .idxA 1 (.t 12) (.t 13), none, none⟩,
      ⟨(some 15), .load none (.t 14), none, none⟩,
      ⟨(some 16), .mv (.c .junk), none, (some ((.t 11), [(.t 15)]))⟩])
     (.cond (.t 16) (.seq (.reg none [
       ⟨(some 17), .mv (.t 5), none, none⟩,
       ⟨(some 4), .mv (.t 17), none, none⟩])
      .ret) .skip))))
    (.reg none [
     ⟨(some 18), .bin .add (.t 8) (.c (.v (.int .i64 1))), none, none⟩,
     ⟨(some 8), .mv (.t 18), none, none⟩])))))))
  (.seq (.reg none [
   ⟨(some 4), .mv (.c (.v (.int .i64 (-1)))), none, none⟩])
  .ret)))
def c_slices_ContainsFunc (f_slices_IndexFunc : FuncId) : AC :=
  (.seq (.reg none [
   ⟨(some 4), .mv (.c (.v (.bool false))), none, none⟩])
  (.seq (.reg none [
   ⟨(some 5), .mv (.t 0), none, none⟩,
   ⟨(some 6), .mv (.t 1), none, none⟩,
   ⟨(some 7), .mv (.c .junk), none, (some ((.c (.clo f_slices_IndexFunc [] [])), [(.t 5), (.t 6)]))⟩,
   ⟨(some 8), .bin .geq (.t 7) (.c (.v (.int .i64 0))), none, none⟩,
   ⟨(some 4), .mv (.t 8), none, none⟩])
  .ret))
def idxF {X : Type} (p : X → Bool) (l : List X) : Int := if l.any p = true then (l.findIdx p : Int) else -1
def idxI {X : Type} (enc : X → AV) (l : List X) (p : X → Bool) (g : FuncId) (cap : List AV) (m : Nat) (f : AF) (S : St) : Prop :=
  ∃ i : Nat, i ≤ l.length ∧ m = l.length - i ∧ f 8 = encI i ∧ f 7 = encI l.length ∧ f 0 = .sl false (l.map enc) ∧ f 1 = .clo g [] cap ∧ ∀ k (h : k < l.length), k < i → p l[k] = false
theorem slices_IndexFunc_body {P : Program} {X : Type} {enc : X → AV} {l : List X} {p : X → Bool} {g : FuncId} {cap : List AV} (hl : Len l) (he : ∀ x, (enc x).cells = [enc x]) (hcl : ∀ x, Closed (enc x)) (hcap : ∀ y ∈ cap, Closed y)
    (hp : ∀ x ∈ l, PureC P g (enc x :: cap) (encB (p x))) : AW P c_slices_IndexFunc (RetK [4] (FzK (encI (idxF p l)))) (argF [.sl false (l.map enc), .clo g [] cap]) S0 := by
  unfold Len at hl
  simp [Z0h, Z0c, Z0d, Z09, Z0a, Z0i, Z0b, Z0f, Z0g, Z2z, Z2y, Z07, Z08, Z06, Z01, Z02, Z00, Z04, Z05, Z03, Z1z, Z1y, Z46, Z48, Z47, Z45, Z1n, Z1o, Z1m, Z3n, Z3k, Z3m, Z3l, Z3o, Z1l, Z29, Z32, Z3x, Z1i, Z1j, Z1k, Z3v, Z3w, Z1g, Z28, Z1h, Z3i, Z3f, Z3h, Z3g, Z3j, Z41, Z40, Z0t, Z0u, Z0v, Z0s, Z1f, Z4c, Z4b, Z4d, Z4a, Z49, ex, Z43, Z42, ev_t, ev_c, Z27, Z26, Z4e, Z4f, Z2m, Z2l, Z2f, Z2j, Z2k, Z2g, Z2h, Z2i, putc, exBslice, lfill, exField, exIdxV, exIdxP, exBox, exAlloc, exLoad, exStore, exFieldA, exIdxA, exLen, exPick, exUn, exBeq, exMM, exSeq, seqGo, exExt, binV, intOp, subc, AV.solid, S0, encI, encB, c_slices_IndexFunc]
  refine AW_loop (idxI enc l p g cap) l.length ?_ ?_
  · refine ⟨0, by omega, by omega, ?_, ?_, ?_, ?_, by omega⟩ <;> simp [Z43, Z27, Z26, encI]
  · rintro m f S ⟨i, hi, rfl, e8, e7, e0, e1, hq⟩
    by_cases hlt : i < l.length
    · simp [Z0h, Z0c, Z0d, Z09, Z0a, Z0i, Z0b, Z0f, Z0g, Z2z, Z2y, Z07, Z08, Z06, Z01, Z02, Z00, Z04, Z05, Z03, Z1z, Z1y, Z46, Z48, Z47, Z45, Z1n, Z1o, Z1m, Z3n, Z3k, Z3m, Z3l, Z3o, Z1l, Z29, Z32, Z3x, Z1i, Z1j, Z1k, Z3v, Z3w, Z1g, Z28, Z1h, Z3i, Z3f, Z3h, Z3g, Z3j, Z41, Z40, Z0t, Z0u, Z0v, Z0s, Z1f, Z4c, Z4b, Z4d, Z4a, Z49, ex, Z43, Z42, ev_t, ev_c, Z27, Z26, Z4e, Z4f, Z2m, Z2l, Z2f, Z2j, Z2k, Z2g, Z2h, Z2i, putc, exBslice, lfill, exField, exIdxV, exIdxP, exBox, exAlloc, exLoad, exStore, exFieldA, exIdxA, exLen, exPick, exUn, exBeq, exMM, exSeq, seqGo, exExt, binV, intOp, subc, AV.solid, S0, encI, encB, e8, e7, e0, e1, hlt, he]
      refine CallR.pure (hp _ (List.getElem_mem hlt)) (cl_cons (hcl _) hcap) (Z2o _) ?_
      cases hb : p l[i] with
      | true =>
        have hi2 : idxF p l = i := by
          have h1 : l.any p = true := List.any_eq_true.mpr ⟨_, List.getElem_mem hlt, hb⟩
          have h2 : l.findIdx p = i := (List.findIdx_eq hlt).mpr ⟨hb, fun j hj => hq j (by omega) hj⟩
          simp [idxF, h1, h2]
        simp [Z0h, Z0c, Z0d, Z09, Z0a, Z0i, Z0b, Z0f, Z0g, Z2z, Z2y, Z07, Z08, Z06, Z01, Z02, Z00, Z04, Z05, Z03, Z1z, Z1y, Z46, Z48, Z47, Z45, Z1n, Z1o, Z1m, Z3n, Z3k, Z3m, Z3l, Z3o, Z1l, Z29, Z32, Z3x, Z1i, Z1j, Z1k, Z3v, Z3w, Z1g, Z28, Z1h, Z3i, Z3f, Z3h, Z3g, Z3j, Z41, Z40, Z0t, Z0u, Z0v, Z0s, Z1f, Z4c, Z4b, Z4d, Z4a, Z49, ex, Z43, Z42, ev_t, ev_c, Z27, Z26, Z4e, Z4f, Z2m, Z2l, Z2f, Z2j, Z2k, Z2g, Z2h, Z2i, putc, exBslice, lfill, exField, exIdxV, exIdxP, exBox, exAlloc, exLoad, exStore, exFieldA, exIdxA, exLen, exPick, exUn, exBeq, exMM, exSeq, seqGo, exExt, binV, intOp, subc, AV.solid, S0, encI, encB, e8, e7, e0, e1, hi2]
        exact FzK_I _ _
      | false =>
        simp [Z0h, Z0c, Z0d, Z09, Z0a, Z0i, Z0b, Z0f, Z0g, Z2z, Z2y, Z07, Z08, Z06, Z01, Z02, Z00, Z04, Z05, Z03, Z1z, Z1y, Z46, Z48, Z47, Z45, Z1n, Z1o, Z1m, Z3n, Z3k, Z3m, Z3l, Z3o, Z1l, Z29, Z32, Z3x, Z1i, Z1j, Z1k, Z3v, Z3w, Z1g, Z28, Z1h, Z3i, Z3f, Z3h, Z3g, Z3j, Z41, Z40, Z0t, Z0u, Z0v, Z0s, Z1f, Z4c, Z4b, Z4d, Z4a, Z49, ex, Z43, Z42, ev_t, ev_c, Z27, Z26, Z4e, Z4f, Z2m, Z2l, Z2f, Z2j, Z2k, Z2g, Z2h, Z2i, putc, exBslice, lfill, exField, exIdxV, exIdxP, exBox, exAlloc, exLoad, exStore, exFieldA, exIdxA, exLen, exPick, exUn, exBeq, exMM, exSeq, seqGo, exExt, binV, intOp, subc, AV.solid, S0, encI, encB, e8, e7, e0, e1]
        rw [wrap_in _ (by omega)]
        refine ⟨l.length - (i + 1), by omega, i + 1, by omega, rfl, ?_, ?_, ?_, ?_, fun k h hk => ?_⟩
        · simp [Z43, encI]
        · simp [Z43, e7]
        · simp [Z43, e0]
        · simp [Z43, e1]
        · by_cases hki : k = i
          · subst hki; exact hb
          · exact hq k h (by omega)
    · have hi2 : idxF p l = -1 := by
        have h1 : l.any p = false := by
          rw [List.any_eq_false]
          intro x hx
          obtain ⟨k, hk, rfl⟩ := List.mem_iff_getElem.mp hx
          rw [hq k hk (by omega)]; simp
        simp [idxF, h1]
      simp [Z0h, Z0c, Z0d, Z09, Z0a, Z0i, Z0b, Z0f, Z0g, Z2z, Z2y, Z07, Z08, Z06, Z01, Z02, Z00, Z04, Z05, Z03, Z1z, Z1y, Z46, Z48, Z47, Z45, Z1n, Z1o, Z1m, Z3n, Z3k, Z3m, Z3l, Z3o, Z1l, Z29, Z32, Z3x, Z1i, Z1j, Z1k, Z3v, Z3w, Z1g, Z28, Z1h, Z3i, Z3f, Z3h, Z3g, Z3j, Z41, Z40, Z0t, Z0u, Z0v, Z0s, Z1f, Z4c, Z4b, Z4d, Z4a, Z49, ex, Z43, Z42, ev_t, ev_c, Z27, Z26, Z4e, Z4f, Z2m, Z2l, Z2f, Z2j, Z2k, Z2g, Z2h, Z2i, putc, exBslice, lfill, exField, exIdxV, exIdxP, exBox, exAlloc, exLoad, exStore, exFieldA, exIdxA, exLen, exPick, exUn, exBeq, exMM, exSeq, seqGo, exExt, binV, intOp, subc, AV.solid, S0, encI, encB, e8, e7, e0, e1, hlt, hi2]
      exact FzK_I _ _
theorem idxF_nonneg {X : Type} (p : X → Bool) (l : List X) : decide (0 ≤ idxF p l) = l.any p := by
  unfold idxF
  cases h : l.any p with
  | true => simp
  | false => simp
theorem slices_ContainsFunc_body {P : Program} {X : Type} {enc : X → AV} {l : List X} {p : X → Bool} {g : FuncId} {cap : List AV} (hcl : ∀ x, Closed (enc x)) (hcap : ∀ y ∈ cap, Closed y) {fi : FuncId}
    (hf : PureC P fi [.sl false (l.map enc), .clo g [] cap] (encI (idxF p l))) : AW P (c_slices_ContainsFunc fi) (RetK [4] (FzK (encB (l.any p)))) (argF [.sl false (l.map enc), .clo g [] cap]) S0 := by
  simp [Z0h, Z0c, Z0d, Z09, Z0a, Z0i, Z0b, Z0f, Z0g, Z2z, Z2y, Z07, Z08, Z06, Z01, Z02, Z00, Z04, Z05, Z03, Z1z, Z1y, Z46, Z48, Z47, Z45, Z1n, Z1o, Z1m, Z3n, Z3k, Z3m, Z3l, Z3o, Z1l, Z29, Z32, Z3x, Z1i, Z1j, Z1k, Z3v, Z3w, Z1g, Z28, Z1h, Z3i, Z3f, Z3h, Z3g, Z3j, Z41, Z40, Z0t, Z0u, Z0v, Z0s, Z1f, Z4c, Z4b, Z4d, Z4a, Z49, ex, Z43, Z42, ev_t, ev_c, Z27, Z26, Z4e, Z4f, Z2m, Z2l, Z2f, Z2j, Z2k, Z2g, Z2h, Z2i, putc, exBslice, lfill, exField, exIdxV, exIdxP, exBox, exAlloc, exLoad, exStore, exFieldA, exIdxA, exLen, exPick, exUn, exBeq, exMM, exSeq, seqGo, exExt, binV, intOp, subc, AV.solid, S0, encI, encB, c_slices_ContainsFunc]
  refine CallR.pure hf (cl_cons (closed_map hcl l) (cl_cons (.clo _ _ _ cl_nil hcap) cl_nil)) (Z2r _) ?_
  simp [Z0h, Z0c, Z0d, Z09, Z0a, Z0i, Z0b, Z0f, Z0g, Z2z, Z2y, Z07, Z08, Z06, Z01, Z02, Z00, Z04, Z05, Z03, Z1z, Z1y, Z46, Z48, Z47, Z45, Z1n, Z1o, Z1m, Z3n, Z3k, Z3m, Z3l, Z3o, Z1l, Z29, Z32, Z3x, Z1i, Z1j, Z1k, Z3v, Z3w, Z1g, Z28, Z1h, Z3i, Z3f, Z3h, Z3g, Z3j, Z41, Z40, Z0t, Z0u, Z0v, Z0s, Z1f, Z4c, Z4b, Z4d, Z4a, Z49, ex, Z43, Z42, ev_t, ev_c, Z27, Z26, Z4e, Z4f, Z2m, Z2l, Z2f, Z2j, Z2k, Z2g, Z2h, Z2i, putc, exBslice, lfill, exField, exIdxV, exIdxP, exBox, exAlloc, exLoad, exStore, exFieldA, exIdxA, exLen, exPick, exUn, exBeq, exMM, exSeq, seqGo, exExt, binV, intOp, subc, AV.solid, S0, encI, encB]
  rw [← idxF_nonneg p l]
  exact FzK_B _ _
end Go.Rf


set_option linter.unusedVariables false
set_option linter.unusedSimpArgs false
namespace Go.Rf
def condK (kind : Int) (x y : Bool) : Bool := (kind == 0 && (!x && !y)) || (kind == 1 && (!x || !y)) || (kind == 2 && (!x || y))
def lastR (out : List Rg) : Rg := out.getD (out.length - 1) ⟨0, 0⟩
def addR (out : List Rg) (lo hi : Int) : List Rg := if 0 < out.length ∧ (lastR out).high + 1 = lo then out.set (out.length - 1) ⟨(lastR out).low, hi⟩ else out ++ [⟨lo, hi⟩]
def toE (e : List Int) (i : Nat) : Int := if i + 1 < e.length then e.getD (i + 1) 0 - 1 else 1114111
def made1 (a b : List Rg) (kind : Int) (e : List Int) (out : List Rg) (i : Nat) : List Rg :=
  if condK kind (hasR a (e.getD i 0)) (hasR b (e.getD i 0)) = true then out else addR out (e.getD i 0) (toE e i)
def madeF (a b : List Rg) (kind : Int) : List Rg := (List.range (edgesF [a, b]).length).foldl (made1 a b kind (edgesF [a, b])) []
/-- What made has so far. -/
structure MSt (a b : List Rg) (kind : Int) (e : List Int) (i : Nat) (out : List Rg) (f : AF) (S : St) : Prop where
  e0 : f 0 = encRs a
  e1 : f 1 = encRs b
  e2 : f 2 = encI kind
  e8 : f 8 = encIs e
  e9 : f 9 = encI i
  v : (f 7 = .sl true [] ∧ out = []) ∨ ∃ id, f 7 = .own id 0 out.length ∧ S.g id = some (.arr 2 (out.map encR)) ∧ 0 < out.length
theorem MSt.vec {a b : List Rg} {kind : Int} {e : List Int} {i : Nat} {out : List Rg} {f : AF} {S : St} (h : MSt a b kind e i out f S) : Vec S.g (f 7) 2 (out.map encR) := by
  rcases h.v with ⟨h1, h2⟩ | ⟨id, h1, h2, _⟩
  · rw [h1, h2]; exact .nil
  · rw [h1]; exact .mk' h2 (by simp)
theorem MSt.same {a b : List Rg} {kind : Int} {e : List Int} {i : Nat} {out : List Rg} {f f' : AF} {S S' : St} (h : MSt a b kind e i out f S) (hf : ∀ j, j = 0 ∨ j = 1 ∨ j = 2 ∨ j = 7 ∨ j = 8 ∨ j = 9 → f' j = f j) (hg : S'.g = S.g) : MSt a b kind e i out f' S' :=
  ⟨by rw [hf 0 (by simp), h.e0], by rw [hf 1 (by simp), h.e1], by rw [hf 2 (by simp), h.e2], by rw [hf 8 (by simp), h.e8], by rw [hf 9 (by simp), h.e9], by rw [hf 7 (by simp), hg]; exact h.v⟩
theorem mem_putF {n x : Int} : ∀ {l : List Int}, x ∈ putF l n ↔ x = n ∨ x ∈ l
  | [] => by simp [putF]
  | y :: l => by
    simp only [putF]
    split
    · rw [List.mem_cons, mem_putF, List.mem_cons]
      constructor
      · rintro (h | h | h) <;> simp [h]
      · rintro (h | h | h) <;> simp [h]
    · split
      · rename_i h; subst h
        constructor
        · intro h; exact .inr h
        · rintro (h | h)
          · rw [h]; exact List.mem_cons_self ..
          · exact h
      · rw [List.mem_cons]
end Go.Rf


set_option linter.unusedVariables false
set_option linter.unusedSimpArgs false
namespace Go.Rf
def andF (a b : List Rg) : List Rg := madeF a b 1
def plainF (l : List Rg) : List Rg := madeF l [] 0
def firstF (l : List Rg) : Int := match plainF l with | [] => -1 | r :: _ => r.low
def rightF (l : List Rg) : Bool := decide (l.length ≤ 400) && decide (plainF l = l)
def sizeW (n : Int) (r : Rg) : Int := IntKind.i64.wrap (IntKind.i64.wrap (IntKind.i64.wrap (n + r.high) - r.low) + 1)
def sizeF (l : List Rg) : Int := (plainF l).foldl sizeW 0
structure RAC (P : Program) (ff fr fs fa : FuncId) : Prop where
  f : ∀ l, PureC P ff [encRs l] (encI (firstF l))
  r : ∀ l, PureC P fr [encRs l] (encB (rightF l))
  s : ∀ l, PureC P fs [encRs l] (encI (sizeF l))
  a : ∀ a b, PureC P fa [encRs a, encRs b] (encRs (andF a b))
end Go.Rf


set_option linter.unusedVariables false
set_option linter.unusedSimpArgs false
namespace Go.Rf
theorem putF_sorted {n : Int} : ∀ {l : List Int}, l.Pairwise (· < ·) → (putF l n).Pairwise (· < ·)
  | [], _ => by simp [putF]
  | x :: l, h => by
    obtain ⟨h1, h2⟩ := List.pairwise_cons.mp h
    simp only [putF]
    split
    · rename_i hx
      refine List.pairwise_cons.mpr ⟨fun y hy => ?_, putF_sorted h2⟩
      rcases mem_putF.mp hy with h3 | h3
      · omega
      · exact h1 y h3
    · split
      · exact h
      · refine List.pairwise_cons.mpr ⟨fun y hy => ?_, h⟩
        rcases List.mem_cons.mp hy with h3 | h3
        · omega
        · have := h1 y h3; omega
/-! ### rising, apart, and below a bound -/
structure Canon (l : List Rg) (B : Int) : Prop where
  pw : l.Pairwise (fun x y => x.high + 1 < y.low)
  at_ : ∀ r ∈ l, 0 ≤ r.low ∧ r.low ≤ r.high ∧ r.high < B
theorem Canon.mono {l : List Rg} {B C : Int} (h : Canon l B) (hb : B ≤ C) : Canon l C := ⟨h.pw, fun r hr => by have := h.at_ r hr; omega⟩
/-- What is right: each is rising, none has another one's. -/
structure RightP (atoms : List (List Rg)) : Prop where
  len : atoms.length ≤ 200
  ok : ∀ a ∈ atoms, a.length ≤ 400 ∧ a ≠ [] ∧ Canon a 1114112
  dis : ∀ j k (hj : j < atoms.length) (hk : k < atoms.length), j < k → ∀ c, ¬ (hasR atoms[k] c = true ∧ hasR atoms[j] c = true)
end Go.Rf

