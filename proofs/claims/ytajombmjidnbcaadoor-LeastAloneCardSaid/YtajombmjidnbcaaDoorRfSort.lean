import Derived.Test.YtajombmjidnbcaaDoorRfCell
import Derived.Test.YtajombmjidnbcaaDoorRfRun
import Derived.Test.YtajombmjidnbcaaDoorRfL10
import Derived.Lib.SlicesCompact
import Derived.Lib.RowBridge
import Derived.Sort.Row
import Derived.Sort.Grow
/- Own work: slices.Clone, of whatever elements: a list of the call's own. -/
set_option linter.unusedVariables false
set_option linter.unusedSimpArgs false
namespace Go.Rf
open Go.RowKit

/-- The same, but for the test on nil. -/
def c_cloneOv (es by_ : Nat) (z : AV) : AC :=
  (.seq (.reg none [
   ⟨(some 2), .mv (.c (.sl true [])), none, none⟩])
  (.seq (.reg none [
   ⟨(some 3), .mv (.t 0), none, none⟩,
   ⟨(some 4), .mv (.c (.v (.bool false))), none, none⟩])
  (.seq (.reg none [
   ⟨(some 5), .bslice es 0 z [], none, none⟩,
   ⟨(some 6), .mv (.t 0), none, none⟩,
   ⟨(some 7), .app es by_ (.t 5) (.t 6), none, none⟩,
   ⟨(some 2), .mv (.t 7), none, none⟩])
  .ret)))
end Go.Rf


/- Own work: numbers, rising, each once. -/
set_option linter.unusedVariables false
set_option linter.unusedSimpArgs false
namespace Go.Rf

theorem mem_cmp {zs : List Int} {x : Int} : x ∈ Lib.compact zs ↔ x ∈ zs := by
  have hget : ∀ j (hj : j < zs.length), zs.toArray[j]! = zs[j] := fun j hj => by simp [hj]
  simp only [Lib.compact, Lib.compactUpTo, List.mem_map, List.mem_filter, List.mem_range]
  constructor
  · rintro ⟨j, ⟨hj, _⟩, rfl⟩
    rw [hget j hj]; exact List.getElem_mem hj
  · intro hx
    obtain ⟨j, hj, rfl⟩ := List.mem_iff_getElem.mp hx
    have key : ∀ m, ∀ j (hj : j < zs.length), j ≤ m → ∃ a, (a < zs.length ∧ Lib.keeps zs.toArray a = true) ∧ zs.toArray[a]! = zs[j] := by
      intro m
      induction m with
      | zero =>
        intro j hj h0
        have : j = 0 := by omega
        subst this
        exact ⟨0, ⟨hj, by simp [Lib.keeps]⟩, hget 0 hj⟩
      | succ m ih =>
        intro j hj hm
        by_cases hk : Lib.keeps zs.toArray j = true
        · exact ⟨j, ⟨hj, hk⟩, hget j hj⟩
        · have hk' : ¬ (j = 0 ∨ zs.toArray[j]! ≠ zs.toArray[j - 1]!) := by simpa [Lib.keeps] using hk
          have h0 : j ≠ 0 := fun e => hk' (.inl e)
          have he : zs.toArray[j]! = zs.toArray[j - 1]! := Decidable.byContradiction fun e => hk' (.inr e)
          obtain ⟨a, ha, hb⟩ := ih (j - 1) (by omega) (by omega)
          refine ⟨a, ha, ?_⟩
          rw [hb, ← hget (j - 1) (by omega), ← he, hget j hj]
    obtain ⟨a, h1, h2⟩ := key j j hj (Nat.le_refl _)
    exact ⟨a, h1, h2⟩
theorem cmp_pw {zs : List Int} (h : zs.Pairwise (· ≤ ·)) : (Lib.compact zs).Pairwise (· < ·) := by
  have hget : ∀ j (hj : j < zs.length), zs.toArray[j]! = zs[j] := fun j hj => by simp [hj]
  have hp := List.pairwise_iff_getElem.mp h
  simp only [Lib.compact, Lib.compactUpTo]
  rw [List.pairwise_map]
  refine List.Pairwise.imp_of_mem ?_ (List.Pairwise.filter _ List.pairwise_lt_range)
  intro a b ha hb hab
  simp only [List.mem_filter, List.mem_range] at ha hb
  obtain ⟨hb1, hb2⟩ := hb
  have hk : b = 0 ∨ zs.toArray[b]! ≠ zs.toArray[b - 1]! := by simpa [Lib.keeps] using hb2
  have h1 : zs.toArray[b]! ≠ zs.toArray[b - 1]! := by
    rcases hk with h1 | h1
    · omega
    · exact h1
  rw [hget b hb1, hget (b - 1) (by omega)] at h1
  rw [hget a ha.1, hget b hb1]
  have h2 : zs[b - 1] ≤ zs[b] := by
    have := hp (b - 1) b (by omega) hb1 (by omega); exact this
  have h3 : zs[a] ≤ zs[b - 1] := by
    by_cases e : a = b - 1
    · subst e; exact Int.le_refl _
    · exact hp a (b - 1) ha.1 (by omega) (by omega)
  omega
def setF (l : List Int) : List Int := Lib.compact (l.mergeSort fun x y => decide (x ≤ y))
theorem mem_setF {l : List Int} {x : Int} : x ∈ setF l ↔ x ∈ l := by
  unfold setF; rw [mem_cmp]; exact (List.mergeSort_perm _ _).mem_iff
theorem setF_pw (l : List Int) : (setF l).Pairwise (· < ·) := by
  refine cmp_pw ?_
  have := List.pairwise_mergeSort (le := fun x y : Int => decide (x ≤ y)) (by simp; omega) (by simp; omega) l
  simpa using this
/-- Rising numbers from a to below b: not more than there are. -/
theorem pw_len : ∀ {l : List Int} {a b : Int}, l.Pairwise (· < ·) → (∀ x ∈ l, a ≤ x ∧ x < b) → (l.length : Int) ≤ max 0 (b - a)
  | [], a, b, _, _ => by simp; omega
  | x :: l, a, b, hl, h => by
    have hl2 := List.pairwise_cons.mp hl
    have hx := h x (by simp)
    have := pw_len (l := l) (a := x + 1) (b := b) hl2.2 (fun y hy => ⟨by have := hl2.1 y hy; omega, (h y (by simp [hy])).2⟩)
    simp only [List.length_cons]; omega
def RisesP (l : List Int) (a b : Int) : Prop := l.Pairwise (· < ·) ∧ ∀ x ∈ l, a ≤ x ∧ x < b
end Go.Rf


set_option linter.unusedVariables false
set_option linter.unusedSimpArgs false
namespace Go.Rf
/-- caesura/caesuraref01.Ints -/
def c_caesuraref01_Ints : AC :=
  (.seq (.reg none [
   ⟨(some 4), .mv (.c (.v (.bool false))), none, none⟩])
  (.seq (.seq (.reg none [
   ⟨(some 6), .mv (.t 0), none, none⟩,
   ⟨(some 7), .len (.t 6), none, none⟩,
   ⟨(some 8), .mv (.t 1), none, none⟩,
   ⟨(some 9), .len (.t 8), none, none⟩,
   ⟨(some 10), .bin .neq (.t 7) (.t 9), none, none⟩])
  (.cond (.t 10) (.seq (.reg none [
    ⟨(some 4), .mv (.c (.v (.bool false))), none, none⟩])
   .ret) .skip))
  (.seq (.seq (.reg none [
   ⟨(some 5), .mv (.c (.v (.int .i64 0))), none, none⟩])
  (.block 0 (.loop (.seq (.seq (.reg none [
     ⟨(some 11), .mv (.t 5), none, none⟩,
     ⟨(some 12), .mv (.t 0), none, none⟩,
     ⟨(some 13), .len (.t 12), none, none⟩,
     ⟨(some 14), .bin .lss (.t 11) (.t 13), none, none⟩])
    (.cond (.t 14) .skip (.exit 0)))
    (.seq (.block 1 (.seq (.reg (some []) [
      ⟨(some 17), .mv (.t 0), none, none⟩,
      ⟨(some 18), .mv (.t 5), none, none⟩,
      ⟨(some 19), .idxA 1 (.t 17) (.t 18), none, none⟩,
      ⟨(some 20), .load none (.t 19), none, none⟩,
      ⟨(some 21), .mv (.t 1), none, none⟩,
      ⟨(some 22), .mv (.t 5), none, none⟩,
      ⟨(some 23), .idxA 1 (.t 21) (.t 22), none, none⟩,
      ⟨(some 24), .load none (.t 23), none, none⟩,
      ⟨(some 25), .bin .neq (.t 20) (.t 24), none, none⟩])
     (.cond (.t 25) (.seq (.reg none [
       ⟨(some 4), .mv (.c (.v (.bool false))), none, none⟩])
      .ret) .skip)))
    (.reg none [
     ⟨(some 15), .mv (.t 5), none, none⟩,
     ⟨(some 16), .bin .add (.t 15) (.c (.v (.int .i64 1))), none, none⟩,
     ⟨(some 5), .mv (.t 16), none, none⟩]))))))
  (.seq (.reg none [
   ⟨(some 4), .mv (.c (.v (.bool true))), none, none⟩])
  .ret))))
def intsI (a b : List Int) (m : Nat) (f : AF) (S : St) : Prop :=
  ∃ i : Nat, i ≤ a.length ∧ m = a.length - i ∧ f 5 = encI i ∧ f 0 = encIs a ∧ f 1 = encIs b ∧ a.length = b.length ∧ a.take i = b.take i
theorem caesuraref01_Ints_body (P : Program) (a b : List Int) (ha : Len a) (hb : Len b) : AW P c_caesuraref01_Ints (RetK [4] (FzK (encB (a == b)))) (argF [encIs a, encIs b]) S0 := by
  unfold Len at ha hb
  by_cases hl : a.length = b.length
  · simp [Z0h, Z0c, Z0d, Z09, Z0a, Z0i, Z0b, Z0f, Z0g, Z2z, Z2y, Z07, Z08, Z06, Z01, Z02, Z00, Z04, Z05, Z03, Z1z, Z1y, Z46, Z48, Z47, Z45, Z1n, Z1o, Z1m, Z3n, Z3k, Z3m, Z3l, Z3o, Z1l, Z29, Z32, Z3x, Z1i, Z1j, Z1k, Z3v, Z3w, Z1g, Z28, Z1h, Z3i, Z3f, Z3h, Z3g, Z3j, Z41, Z40, Z0t, Z0u, Z0v, Z0s, Z1f, Z4c, Z4b, Z4d, Z4a, Z49, ex, Z43, Z42, ev_t, ev_c, Z27, Z26, Z4e, Z4f, Z2m, Z2l, Z2f, Z2j, Z2k, Z2g, Z2h, Z2i, putc, exBslice, lfill, exField, exIdxV, exIdxP, exBox, exAlloc, exLoad, exStore, exFieldA, exIdxA, exLen, exPick, exUn, exBeq, exMM, exSeq, seqGo, exExt, binV, intOp, subc, AV.solid, S0, encI, encB, c_caesuraref01_Ints, encIs, hl]
    refine AW_loop (intsI a b) a.length ?_ ?_
    · refine ⟨0, by omega, by omega, ?_, ?_, ?_, hl, ?_⟩ <;> simp [Z43, Z27, Z26, encI, encIs]
    · rintro m f S ⟨i, hi, rfl, e5, e0, e1, _, hp⟩
      by_cases hlt : i < a.length
      · have hlb : i < b.length := by omega
        by_cases he : a[i] = b[i]
        · simp [Z0h, Z0c, Z0d, Z09, Z0a, Z0i, Z0b, Z0f, Z0g, Z2z, Z2y, Z07, Z08, Z06, Z01, Z02, Z00, Z04, Z05, Z03, Z1z, Z1y, Z46, Z48, Z47, Z45, Z1n, Z1o, Z1m, Z3n, Z3k, Z3m, Z3l, Z3o, Z1l, Z29, Z32, Z3x, Z1i, Z1j, Z1k, Z3v, Z3w, Z1g, Z28, Z1h, Z3i, Z3f, Z3h, Z3g, Z3j, Z41, Z40, Z0t, Z0u, Z0v, Z0s, Z1f, Z4c, Z4b, Z4d, Z4a, Z49, ex, Z43, Z42, ev_t, ev_c, Z27, Z26, Z4e, Z4f, Z2m, Z2l, Z2f, Z2j, Z2k, Z2g, Z2h, Z2i, putc, exBslice, lfill, exField, exIdxV, exIdxP, exBox, exAlloc, exLoad, exStore, exFieldA, exIdxA, exLen, exPick, exUn, exBeq, exMM, exSeq, seqGo, exExt, binV, intOp, subc, AV.solid, S0, encI, encB, e5, e0, e1, encIs, hlt, hlb, he]
          rw [wrap_in _ (by omega)]
          refine ⟨a.length - (i + 1), by omega, i + 1, by omega, rfl, ?_, ?_, ?_, hl, ?_⟩ <;> try simp [Z43, e5, e0, e1, encI, encIs]
          rw [List.take_add_one, List.take_add_one, hp, List.getElem?_eq_getElem hlt, List.getElem?_eq_getElem hlb, he]
        · have hr : (a == b) = false := beq_false_of_ne (by rintro rfl; exact he rfl)
          have hc : (a[i] != b[i]) = true := by simp [he]
          simp [Z0h, Z0c, Z0d, Z09, Z0a, Z0i, Z0b, Z0f, Z0g, Z2z, Z2y, Z07, Z08, Z06, Z01, Z02, Z00, Z04, Z05, Z03, Z1z, Z1y, Z46, Z48, Z47, Z45, Z1n, Z1o, Z1m, Z3n, Z3k, Z3m, Z3l, Z3o, Z1l, Z29, Z32, Z3x, Z1i, Z1j, Z1k, Z3v, Z3w, Z1g, Z28, Z1h, Z3i, Z3f, Z3h, Z3g, Z3j, Z41, Z40, Z0t, Z0u, Z0v, Z0s, Z1f, Z4c, Z4b, Z4d, Z4a, Z49, ex, Z43, Z42, ev_t, ev_c, Z27, Z26, Z4e, Z4f, Z2m, Z2l, Z2f, Z2j, Z2k, Z2g, Z2h, Z2i, putc, exBslice, lfill, exField, exIdxV, exIdxP, exBox, exAlloc, exLoad, exStore, exFieldA, exIdxA, exLen, exPick, exUn, exBeq, exMM, exSeq, seqGo, exExt, binV, intOp, subc, AV.solid, S0, encI, encB, e5, e0, e1, encIs, hlt, hlb, hc, hr]
          exact FzK_B false _
      · have hab : a = b := by
          rw [List.take_of_length_le (by omega), List.take_of_length_le (by omega)] at hp; exact hp
        have hr : (a == b) = true := by simp [hab]
        simp [Z0h, Z0c, Z0d, Z09, Z0a, Z0i, Z0b, Z0f, Z0g, Z2z, Z2y, Z07, Z08, Z06, Z01, Z02, Z00, Z04, Z05, Z03, Z1z, Z1y, Z46, Z48, Z47, Z45, Z1n, Z1o, Z1m, Z3n, Z3k, Z3m, Z3l, Z3o, Z1l, Z29, Z32, Z3x, Z1i, Z1j, Z1k, Z3v, Z3w, Z1g, Z28, Z1h, Z3i, Z3f, Z3h, Z3g, Z3j, Z41, Z40, Z0t, Z0u, Z0v, Z0s, Z1f, Z4c, Z4b, Z4d, Z4a, Z49, ex, Z43, Z42, ev_t, ev_c, Z27, Z26, Z4e, Z4f, Z2m, Z2l, Z2f, Z2j, Z2k, Z2g, Z2h, Z2i, putc, exBslice, lfill, exField, exIdxV, exIdxP, exBox, exAlloc, exLoad, exStore, exFieldA, exIdxA, exLen, exPick, exUn, exBeq, exMM, exSeq, seqGo, exExt, binV, intOp, subc, AV.solid, S0, encI, encB, e5, e0, e1, encIs, hlt, hr]
        exact FzK_B true _
  · have hr : (a == b) = false := beq_false_of_ne (by rintro rfl; exact hl rfl)
    have hc : ((a.length : Int) != b.length) = true := by simp; omega
    simp [Z0h, Z0c, Z0d, Z09, Z0a, Z0i, Z0b, Z0f, Z0g, Z2z, Z2y, Z07, Z08, Z06, Z01, Z02, Z00, Z04, Z05, Z03, Z1z, Z1y, Z46, Z48, Z47, Z45, Z1n, Z1o, Z1m, Z3n, Z3k, Z3m, Z3l, Z3o, Z1l, Z29, Z32, Z3x, Z1i, Z1j, Z1k, Z3v, Z3w, Z1g, Z28, Z1h, Z3i, Z3f, Z3h, Z3g, Z3j, Z41, Z40, Z0t, Z0u, Z0v, Z0s, Z1f, Z4c, Z4b, Z4d, Z4a, Z49, ex, Z43, Z42, ev_t, ev_c, Z27, Z26, Z4e, Z4f, Z2m, Z2l, Z2f, Z2j, Z2k, Z2g, Z2h, Z2i, putc, exBslice, lfill, exField, exIdxV, exIdxP, exBox, exAlloc, exLoad, exStore, exFieldA, exIdxA, exLen, exPick, exUn, exBeq, exMM, exSeq, seqGo, exExt, binV, intOp, subc, AV.solid, S0, encI, encB, c_caesuraref01_Ints, encIs, hc, hr]
    exact FzK_B false _
end Go.Rf


/- Own work: the library's contracts of slices.Sort and slices.Compact, at the level of abstract values. -/
set_option linter.unusedVariables false
set_option linter.unusedSimpArgs false
namespace Go.Rf
open Go.RowKit Go.Sort

/-- The library's contracts of slices.Sort and slices.Compact, at []int. -/
def HSort (P : Program) (f : FuncId) : Prop := ∀ (S : St) (id off : Nat) (ys : List AV) (l : List Int) (K : AV → St → Prop), S.g id = some (.arr 1 ys) → ys.drop off = l.map encI → l ≠ [] → l.length ≤ 1000000 →
  K (.tup []) (S.set id (some (.arr 1 (ys.take off ++ (l.mergeSort fun x y => decide (x ≤ y)).map encI)))) → CallR P f [.own id off l.length] S K
def HComp (P : Program) (f : FuncId) : Prop := ∀ (S : St) (id off : Nat) (ys : List AV) (l : List Int) (K : AV → St → Prop), S.g id = some (.arr 1 ys) → ys.drop off = l.map encI → l ≠ [] → l.length ≤ 1000000 →
  K (.own id off (Lib.compact l).length) (S.set id (some (.arr 1 (ys.take off ++ (Lib.compact l).map encI)))) → CallR P f [.own id off l.length] S K
end Go.Rf

