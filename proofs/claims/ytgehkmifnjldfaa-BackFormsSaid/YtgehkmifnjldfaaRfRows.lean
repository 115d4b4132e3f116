import Derived.Test.YtgehkmifnjldfaaRfK1
import Derived.Test.YtgehkmifnjldfaaRfCell
/- Own work: lists, the other way round. -/
set_option linter.unusedVariables false
set_option linter.unusedSimpArgs false
namespace Go.Rf
open Go.RowKit
attribute [local simp] Z0h Z0c Z0d Z09 Z0a Z0i Z0b Z0f Z0g Z2z Z2y Z07 Z08 Z06 Z01 Z02 Z00 Z04 Z05 Z03 Z1z Z1y Z46 Z48 Z47 Z45 Z1n Z1o Z1m Z3n Z3k Z3m Z3l Z3o Z1l Z29 Z32 Z3x Z1i Z1j Z1k Z3v Z3w Z1g Z28 Z1h Z3i Z3f Z3h Z3g Z3j Z41 Z40 Z0t Z0u Z0v Z0s Z1f Z4c Z4b Z4d Z4a Z49 ex Z43 Z42 ev_t ev_c Z27 Z26 Z4e Z4f Z2m Z2l Z2f Z2j Z2k Z2g Z2h Z2i putc exBslice lfill exField exIdxV exIdxP exBox exAlloc exLoad exStore exFieldA exIdxA exLen exPick exUn exBeq exMM exSeq seqGo exExt binV intOp subc AV.solid S0 encI encB

def c_slices_Reverse_Sint_int_ : AC :=
  (.seq (.reg none [
   ⟨(some 4), .mv (.t 0), none, none⟩,
   ⟨(some 5), .len (.t 4), none, none⟩,
   ⟨(some 6), .bin .sub (.t 5) (.c (.v (.int .i64 1))), none, none⟩,
   ⟨(some 2), .mv (.c (.v (.int .i64 0))), none, none⟩,
   ⟨(some 3), .mv (.t 6), none, none⟩])
  (.block 0 (.loop (.seq (.seq (.reg none [
     ⟨(some 7), .mv (.t 2), none, none⟩,
     ⟨(some 8), .mv (.t 3), none, none⟩,
     ⟨(some 9), .bin .lss (.t 7) (.t 8), none, none⟩])
    (.cond (.t 9) .skip (.exit 0)))
    (.seq (.block 1 (.reg (some [[], [], [], [], [], [], [], [], [], [], [], [], [], [false, false, false, false, false, false, false, false, false, true, true]]) [
      ⟨(some 14), .mv (.t 0), none, none⟩,
      ⟨(some 15), .mv (.t 2), none, none⟩,
      ⟨(some 16), .mv (.t 0), none, none⟩,
      ⟨(some 17), .mv (.t 3), none, none⟩,
      ⟨(some 18), .mv (.t 0), none, none⟩,
      ⟨(some 19), .mv (.t 3), none, none⟩,
      ⟨(some 20), .idxA 1 (.t 18) (.t 19), none, none⟩,
      ⟨(some 21), .load none (.t 20), none, none⟩,
      ⟨(some 22), .mv (.t 0), none, none⟩,
      ⟨(some 23), .mv (.t 2), none, none⟩,
      ⟨(some 24), .idxA 1 (.t 22) (.t 23), none, none⟩,
      ⟨(some 25), .load none (.t 24), none, none⟩,
      ⟨(some 26), .idxA 1 (.t 14) (.t 15), none, none⟩,
      ⟨none, .store 1 (.t 26) (.t 21), none, none⟩,
      ⟨(some 27), .idxA 1 (.t 16) (.t 17), none, none⟩,
      ⟨none, .store 1 (.t 27) (.t 25), none, none⟩]))
    (.reg none [
     ⟨(some 10), .mv (.t 2), none, none⟩,
     ⟨(some 11), .bin .add (.t 10) (.c (.v (.int .i64 1))), none, none⟩,
     ⟨(some 12), .mv (.t 3), none, none⟩,
     ⟨(some 13), .bin .sub (.t 12) (.c (.v (.int .i64 1))), none, none⟩,
     ⟨(some 2), .mv (.t 11), none, none⟩,
     ⟨(some 3), .mv (.t 13), none, none⟩]))))))
def c_back_turned (f_back_Turn f_slices_Clone_Sint_int_ f_slices_Reverse_Sint_int_ : FuncId) : AC :=
  (.seq (.reg none [
   ⟨(some 2), .box 4 (.t 0), none, none⟩,
   ⟨(some 4), .alloc (.agg [(.v (.int .i64 0)), (.sl true []), (.sl true []), (.sl true [])]) 4, none, none⟩,
   ⟨(some 5), .mv (.c (.sl true [])), none, none⟩])
  (.seq (.reg none [
   ⟨(some 7), .load (some 4) (.t 2), none, none⟩,
   ⟨(some 8), .mv (.c .junk), none, (some ((.c (.clo f_back_Turn [] [])), [(.t 7)]))⟩,
   ⟨(some 6), .mv (.t 8), none, none⟩,
   ⟨(some 9), .ext 0 (.t 6), none, none⟩,
   ⟨(some 10), .ext 1 (.t 6), none, none⟩,
   ⟨none, .store 4 (.t 2) (.t 9), none, none⟩])
  (.seq (.reg none [
   ⟨(some 11), .mv (.t 1), none, none⟩,
   ⟨(some 12), .mv (.c .junk), none, (some ((.c (.clo f_slices_Clone_Sint_int_ [] [])), [(.t 11)]))⟩,
   ⟨(some 1), .mv (.t 12), none, none⟩])
  (.seq (.reg none [
   ⟨(some 13), .mv (.t 1), none, none⟩,
   ⟨(some 14), .mv (.c .junk), none, (some ((.c (.clo f_slices_Reverse_Sint_int_ [] [])), [(.t 13)]))⟩])
  (.seq (.reg none [
   ⟨(some 15), .load (some 4) (.t 2), none, none⟩,
   ⟨(some 16), .mv (.t 1), none, none⟩,
   ⟨none, .store 4 (.t 4) (.t 15), none, none⟩,
   ⟨(some 5), .mv (.t 16), none, none⟩])
  .ret)))))
def c_back_Tails (f_back_turned f_back_Heads : FuncId) : AC :=
  (.seq (.reg none [
   ⟨(some 2), .box 4 (.t 0), none, none⟩,
   ⟨(some 4), .mv (.c (.sl true [])), none, none⟩])
  (.seq (.reg none [
   ⟨(some 5), .load (some 4) (.t 2), none, none⟩,
   ⟨(some 6), .mv (.t 1), none, none⟩,
   ⟨(some 7), .mv (.c .junk), none, (some ((.c (.clo f_back_turned [] [])), [(.t 5), (.t 6)]))⟩,
   ⟨(some 8), .ext 0 (.t 7), none, none⟩,
   ⟨(some 9), .ext 1 (.t 7), none, none⟩,
   ⟨(some 10), .mv (.c .junk), none, (some ((.c (.clo f_back_Heads [] [])), [(.t 8), (.t 9)]))⟩,
   ⟨(some 4), .mv (.t 10), none, none⟩])
  .ret))
def c_back_Tail (f_back_turned f_back_Head : FuncId) : AC :=
  (.seq (.reg none [
   ⟨(some 2), .box 4 (.t 0), none, none⟩,
   ⟨(some 4), .mv (.c (.v (.bool false))), none, none⟩])
  (.seq (.reg none [
   ⟨(some 5), .load (some 4) (.t 2), none, none⟩,
   ⟨(some 6), .mv (.t 1), none, none⟩,
   ⟨(some 7), .mv (.c .junk), none, (some ((.c (.clo f_back_turned [] [])), [(.t 5), (.t 6)]))⟩,
   ⟨(some 8), .ext 0 (.t 7), none, none⟩,
   ⟨(some 9), .ext 1 (.t 7), none, none⟩,
   ⟨(some 10), .mv (.c .junk), none, (some ((.c (.clo f_back_Head [] [])), [(.t 8), (.t 9)]))⟩,
   ⟨(some 4), .mv (.t 10), none, none⟩])
  .ret))
def c_caesuraref11_Back : AC :=
  (.seq (.reg none [
   ⟨(some 2), .mv (.c (.sl true [])), none, none⟩])
  (.seq (.reg none [
   ⟨(some 3), .mv (.c (.sl true [])), none, none⟩])
  (.seq (.seq (.reg none [
   ⟨(some 5), .mv (.t 0), none, none⟩,
   ⟨(some 6), .len (.t 5), none, none⟩,
   ⟨(some 7), .bin .sub (.t 6) (.c (.v (.int .i64 1))), none, none⟩,
   ⟨(some 4), .mv (.t 7), none, none⟩])
  (.block 0 (.loop (.seq (.seq (.reg none [
     ⟨(some 8), .mv (.t 4), none, none⟩,
     ⟨(some 9), .bin .geq (.t 8) (.c (.v (.int .i64 0))), none, none⟩])
    (.cond (.t 9) .skip (.exit 0)))
    (.seq (.block 1 (.reg none [
      ⟨(some 12), .mv (.t 3), none, none⟩,
      ⟨(some 13), .mv (.t 0), none, none⟩,
      ⟨(some 14), .mv (.t 4), none, none⟩,
      ⟨(some 15), .idxA 1 (.t 13) (.t 14), none, none⟩,
      ⟨(some 16), .load none (.t 15), none, none⟩,
      ⟨(some 17), .bslice 1 1 (.v (.int .i64 0)) [(0, (.t 16))], none, none⟩,
      ⟨(some 18), .app 1 8 (.t 12) (.t 17), none, none⟩,
      ⟨(some 3), .mv (.t 18), none, none⟩]))
    (.reg none [
     ⟨(some 10), .mv (.t 4), none, none⟩,
     ⟨(some 11), .bin .sub (.t 10) (.c (.v (.int .i64 1))), none, none⟩,
     ⟨(some 4), .mv (.t 11), none, none⟩]))))))
  (.seq (.reg none [
   ⟨(some 19), .mv (.t 3), none, none⟩,
   ⟨(some 2), .mv (.t 19), none, none⟩])
  .ret))))
def c_caesuraref14_Heads (f_caesuraref13_Accepts : FuncId) : AC :=
  (.seq (.reg none [
   ⟨(some 2), .box 4 (.t 0), none, none⟩,
   ⟨(some 4), .mv (.c (.sl true [])), none, none⟩])
  (.seq (.reg none [
   ⟨(some 5), .mv (.c (.sl true [])), none, none⟩])
  (.seq (.seq (.reg none [
   ⟨(some 6), .mv (.c (.v (.int .i64 0))), none, none⟩])
  (.block 0 (.loop (.seq (.seq (.reg none [
     ⟨(some 7), .mv (.t 6), none, none⟩,
     ⟨(some 8), .mv (.t 1), none, none⟩,
     ⟨(some 9), .len (.t 8), none, none⟩,
     ⟨(some 10), .bin .leq (.t 7) (.t 9), none, none⟩])
    (.cond (.t 10) .skip (.exit 0)))
    (.seq (.block 1 (.seq (.reg (some []) [
      ⟨(some 13), .load (some 4) (.t 2), none, none⟩,
      ⟨(some 14), .mv (.t 1), none, none⟩,
      ⟨(some 15), .mv (.t 6), none, none⟩,
      ⟨(some 16), .slc 1 (.t 14) none (some (.t 15)), none, none⟩,
      ⟨(some 17), .mv (.c .junk), none, (some ((.c (.clo f_caesuraref13_Accepts [] [])), [(.t 13), (.t 16)]))⟩])
     (.cond (.t 17) (.reg none [
       ⟨(some 18), .mv (.t 5), none, none⟩,
       ⟨(some 19), .mv (.t 6), none, none⟩,
       ⟨(some 20), .bslice 1 1 (.v (.int .i64 0)) [(0, (.t 19))], none, none⟩,
       ⟨(some 21), .app 1 8 (.t 18) (.t 20), none, none⟩,
       ⟨(some 5), .mv (.t 21), none, none⟩]) .skip)))
    (.reg none [
     ⟨(some 11), .mv (.t 6), none, none⟩,
     ⟨(some 12), .bin .add (.t 11) (.c (.v (.int .i64 1))), none, none⟩,
     ⟨(some 6), .mv (.t 12), none, none⟩]))))))
  (.seq (.reg none [
   ⟨(some 22), .mv (.t 5), none, none⟩,
   ⟨(some 4), .mv (.t 22), none, none⟩])
  .ret))))
def c_caesuraref14_Tails (f_caesuraref13_Accepts : FuncId) : AC :=
  (.seq (.reg none [
   ⟨(some 2), .box 4 (.t 0), none, none⟩,
   ⟨(some 4), .mv (.c (.sl true [])), none, none⟩])
  (.seq (.reg none [
   ⟨(some 5), .mv (.c (.sl true [])), none, none⟩])
  (.seq (.seq (.reg none [
   ⟨(some 6), .mv (.c (.v (.int .i64 0))), none, none⟩])
  (.block 0 (.loop (.seq (.seq (.reg none [
     ⟨(some 7), .mv (.t 6), none, none⟩,
     ⟨(some 8), .mv (.t 1), none, none⟩,
     ⟨(some 9), .len (.t 8), none, none⟩,
     ⟨(some 10), .bin .leq (.t 7) (.t 9), none, none⟩])
    (.cond (.t 10) .skip (.exit 0)))
    (.seq (.block 1 (.seq (.reg (some []) [
      ⟨(some 13), .load (some 4) (.t 2), none, none⟩,
      ⟨(some 14), .mv (.t 1), none, none⟩,
      ⟨(some 15), .mv (.t 1), none, none⟩,
      ⟨(some 16), .len (.t 15), none, none⟩,
      ⟨(some 17), .mv (.t 6), none, none⟩,
      ⟨(some 18), .bin .sub (.t 16) (.t 17), none, none⟩,
      ⟨(some 19), .slc 1 (.t 14) (some (.t 18)) none, none, none⟩,
      ⟨(some 20), .mv (.c .junk), none, (some ((.c (.clo f_caesuraref13_Accepts [] [])), [(.t 13), (.t 19)]))⟩])
     (.cond (.t 20) (.reg none [
       ⟨(some 21), .mv (.t 5), none, none⟩,
       ⟨(some 22), .mv (.t 6), none, none⟩,
       ⟨(some 23), .bslice 1 1 (.v (.int .i64 0)) [(0, (.t 22))], none, none⟩,
       ⟨(some 24), .app 1 8 (.t 21) (.t 23), none, none⟩,
       ⟨(some 5), .mv (.t 24), none, none⟩]) .skip)))
    (.reg none [
     ⟨(some 11), .mv (.t 6), none, none⟩,
     ⟨(some 12), .bin .add (.t 11) (.c (.v (.int .i64 1))), none, none⟩,
     ⟨(some 6), .mv (.t 12), none, none⟩]))))))
  (.seq (.reg none [
   ⟨(some 25), .mv (.t 5), none, none⟩,
   ⟨(some 4), .mv (.t 25), none, none⟩])
  .ret))))
/-- The list with its outer i places on either side exchanged. -/
def revAt (l : List Int) (i : Nat) : List Int := (List.range l.length).map fun k => if k < i ∨ l.length ≤ k + i then l.getD (l.length - 1 - k) 0 else l.getD k 0
theorem revAt_len (l : List Int) (i : Nat) : (revAt l i).length = l.length := by simp [revAt]
theorem revAt_zero (l : List Int) : revAt l 0 = l := by
  refine List.ext_getElem (by simp [revAt]) (fun k h1 h2 => ?_)
  simp only [revAt, List.getElem_map, List.getElem_range]
  rw [if_neg (by omega), List.getD_eq_getElem?_getD, List.getElem?_eq_getElem h2]; rfl
theorem revAt_end (l : List Int) {i : Nat} (h : l.length ≤ 2 * i + 1) : revAt l i = l.reverse := by
  refine List.ext_getElem (by simp [revAt]) (fun k h1 h2 => ?_)
  have hk : k < l.length := by simpa [revAt] using h1
  simp only [revAt, List.getElem_map, List.getElem_range, List.getElem_reverse]
  by_cases hc : k < i ∨ l.length ≤ k + i
  · rw [if_pos hc, List.getD_eq_getElem?_getD, List.getElem?_eq_getElem (by omega)]; rfl
  · rw [if_neg hc, List.getD_eq_getElem?_getD, List.getElem?_eq_getElem hk]
    simp only [Option.getD_some]
    congr 1; omega
theorem revAt_get (l : List Int) (i k : Nat) (hk : k < l.length) (h : (revAt l i).length = l.length) : (revAt l i)[k]'(by omega) = if k < i ∨ l.length ≤ k + i then l[l.length - 1 - k]'(by omega) else l[k] := by
  simp only [revAt, List.getElem_map, List.getElem_range]
  split
  · rw [List.getD_eq_getElem?_getD, List.getElem?_eq_getElem (by omega)]; rfl
  · rw [List.getD_eq_getElem?_getD, List.getElem?_eq_getElem hk]; rfl
theorem revAt_succ (l : List Int) {i : Nat} (h : 2 * i + 1 < l.length) (hl : (revAt l i).length = l.length) :
    revAt l (i + 1) = ((revAt l i).set i ((revAt l i)[l.length - 1 - i]'(by omega))).set (l.length - 1 - i) ((revAt l i)[i]'(by omega)) := by
  refine List.ext_getElem (by simp [revAt]) (fun k h1 h2 => ?_)
  have hk : k < l.length := by simpa [revAt] using h1
  rw [revAt_get l (i + 1) k hk (revAt_len _ _), List.getElem_set, List.getElem_set]
  have b1 := revAt_get l i i (by omega) hl
  have b2 := revAt_get l i (l.length - 1 - i) (by omega) hl
  have b3 := revAt_get l i k hk hl
  simp only [b1, b2, b3]
  by_cases e1 : l.length - 1 - i = k
  · rw [if_pos e1, if_pos (by omega), if_neg (by omega)]
    congr 1; omega
  · rw [if_neg e1]
    by_cases e2 : i = k
    · rw [if_pos e2, if_pos (by omega), if_neg (by omega)]
      congr 1; omega
    · rw [if_neg e2]
      by_cases hc : k < i ∨ l.length ≤ k + i
      · rw [if_pos hc, if_pos (by omega)]
      · rw [if_neg hc, if_neg (by omega)]
def rvI (S : St) (id : Nat) (l : List Int) (i : Nat) (f : AF) (S' : St) : Prop := f 0 = .own id 0 l.length ∧ f 2 = encI i ∧ f 3 = encI ((l.length : Int) - 1 - i) ∧ S'.g = (S.set id (some (.arr 1 ((revAt l i).map encI)))).g ∧ S.n ≤ S'.n
def HRev (P : Program) (f : FuncId) : Prop := ∀ (S : St) (id : Nat) (l : List Int) (K : AV → St → Prop), S.g id = some (.arr 1 (l.map encI)) → l.length ≤ 1000000 → (∀ n, S.n ≤ n → K (.tup []) ⟨n, (S.set id (some (.arr 1 (l.reverse.map encI)))).g⟩) → CallR P f [.own id 0 l.length] S K
theorem HRev_of {P : Program} (hm : P.follows .mixedOrders = true) {f : FuncId} (h : Is P f c_slices_Reverse_Sint_int_ [] 1) : HRev P f := by
  intro S id l K hg hl hk
  refine h.callR hm rfl ?_
  have hw0 := wrap_in ((l.length : Int) - 1) (by omega)
  simp [c_slices_Reverse_Sint_int_, hw0]
  refine AW_for (l.length / 2) (rvI S id l) ?_ ?_
  · refine ⟨?_, ?_, ?_, ?_, ?_⟩
    · simp [Z43, Z27]
    · simp [Z43, encI]
    · simp [Z43, encI]
    · rw [revAt_zero]
      funext j
      simp only [Z4e]
      split
      · rename_i e; rw [e]; exact hg
      · rfl
    · simp
  · rintro i f S' hi ⟨e0, e2, e3, gq, hn⟩
    have hlen := revAt_len l i
    have gid : S'.g id = some (.arr 1 ((revAt l i).map encI)) := by rw [gq]; simp [Z4e]
    by_cases hlt : 2 * i + 1 < l.length
    · have hlt1 : (i : Int) < (l.length : Int) - 1 - i := by omega
      have j1 : ((l.length : Int) - 1 - i).toNat = l.length - 1 - i := by omega
      have j0 : (0 : Int) ≤ (l.length : Int) - 1 - i := by omega
      have j2 : (l.length : Int) - 1 - i < l.length := by omega
      have hil : (i : Int) < l.length := by omega
      have a1 : (revAt l i)[i]? = some ((revAt l i)[i]'(by omega)) := List.getElem?_eq_getElem (by omega)
      have a2 : (revAt l i)[l.length - 1 - i]? = some ((revAt l i)[l.length - 1 - i]'(by omega)) := List.getElem?_eq_getElem (by omega)
      have hne : ¬ (i = l.length - 1 - i) := by omega
      have j3 : (i : Int) ≤ (l.length : Int) - 1 := by omega
      have j4 : (l.length : Int) - 1 - i < l.length := by omega
      have j5 : l.length ≤ (revAt l i).length := by omega
      simp [e0, e2, e3, gid, hlt1, j1, j0, j2, hil, hlen, a1, a2, hne, j3, j4, j5]
      rw [wrap_in _ (by omega), wrap_in _ (by omega)]
      refine ⟨by omega, ?_, ?_, ?_, ?_, ?_⟩
      · simp [Z43, e0]
      · simp [Z43, encI]
      · simp [Z43, encI]; omega
      · rw [revAt_succ l hlt hlen]
        funext j
        simp only [Z4e, gq]
        split
        · simp [List.map_set, encI]
        · rfl
      · simp [Z4f]; omega
    · have hlt1 : ¬ (i : Int) < (l.length : Int) - 1 - i := by omega
      rw [revAt_end l (by omega)] at gq
      simp [e0, e2, e3, hlt1]
      have := hk (S'.n + 3) (by omega)
      rw [← gq] at this
      exact this
theorem slc_hi (l : List Int) (t : Bool) (i : Nat) (h : i ≤ l.length) (S : St) (nid : Nat) : ∃ t', (exSlc 1 (.sl t (l.map encI)) none (some (.v (.int .i64 (i : Int))))).run S nid = some (.sl t' ((l.take i).map encI), S) := by
  have hc : ∀ y ∈ l.map encI, y.cells.length = 1 := cells_I l
  refine ⟨(t && ((some (AV.v (.int .i64 (i : Int)))).isNone || i == (l.map encI).length)), ?_⟩
  simp only [exSlc, Eff.run_val, bnd, Option.bind_some, Int.toNat_natCast]
  rw [if_pos (by omega)]
  simp only [Option.bind_some]
  rw [if_pos ⟨by omega, by simpa using h, hc⟩]
  simp [List.map_take]
theorem slc_lo (l : List Int) (t : Bool) (i : Nat) (h : i ≤ l.length) (S : St) (nid : Nat) : ∃ t', (exSlc 1 (.sl t (l.map encI)) (some (.v (.int .i64 (i : Int)))) none).run S nid = some (.sl t' ((l.drop i).map encI), S) := by
  have hc : ∀ y ∈ l.map encI, y.cells.length = 1 := cells_I l
  refine ⟨(t && ((none : Option AV).isNone || (l.map encI).length == (l.map encI).length)), ?_⟩
  simp only [exSlc, Eff.run_val, bnd, Option.bind_some, Int.toNat_natCast]
  rw [if_pos (by omega)]
  simp only [Option.bind_some]
  rw [if_pos ⟨by simpa using h, by omega, hc⟩]
  simp [List.map_drop, List.take_of_length_le]
def filtL (p : Nat → Bool) (i : Nat) : List Int := ((List.range i).filter p).map Int.ofNat
theorem filtL_succ (p : Nat → Bool) (i : Nat) : filtL p (i + 1) = filtL p i ++ (if p i = true then [(i : Int)] else []) := by
  unfold filtL
  rw [List.range_succ, List.filter_append, List.map_append]
  congr 1
  by_cases h : p i = true <;> simp [h]
theorem filtL_len (p : Nat → Bool) (i : Nat) : (filtL p i).length ≤ i := by
  unfold filtL
  rw [List.length_map]
  have := List.length_filter_le p (List.range i)
  simpa using this
def tlP (n : Net) (l : List Int) (i : Nat) : Bool := accN n (l.drop (l.length - i))
def hdP (n : Net) (l : List Int) (i : Nat) : Bool := accN n (l.take i)
def rhI (n : Net) (l : List Int) (p : Nat → Bool) (i : Nat) (f : AF) (S : St) : Prop := f 1 = encIs l ∧ f 2 = .ptr 0 0 0 ∧ f 6 = encI i ∧ S.g 0 = some (.arr 4 [encNet n]) ∧ Vec S.g (f 5) 1 ((filtL p i).map encI) ∧ 0 ∉ (f 5).ids ∧ 1 ≤ S.n
theorem Heads14_body {P : Program} {fa : FuncId} (n : Net) (l : List Int) (hl : l.length ≤ 1000000) (ha : ∀ m : List Int, m.length ≤ l.length → PureC P fa [encNet n, encIs m] (encB (accN n m))) : AW P (c_caesuraref14_Heads fa) (RetK [4] (FzK (encIs (filtL (hdP n l) (l.length + 1))))) (argF [encNet n, encIs l]) S0 := by
  simp [c_caesuraref14_Heads, encNet]
  refine AW_for (l.length + 1) (rhI n l (hdP n l)) ?_ ?_
  · refine ⟨?_, ?_, ?_, ?_, ?_, ?_, ?_⟩
    · simp [Z43, Z27, Z26, encIs]
    · simp [Z43]
    · simp [Z43, encI]
    · simp [Z4e, encNet, encI]
    · simp [Z43, filtL]; exact .nil
    · simp [Z43, AV.ids]
    · simp
  · rintro i f S hi ⟨e1, e2, e6, g0, hv, ho, hn⟩
    have g0' := g0
    simp only [encNet] at g0
    by_cases hlt : i ≤ l.length
    · have hlt' : (i : Int) ≤ l.length := by omega
      have hsub : IntKind.i64.wrap ((l.length : Int) - (i : Int)) = ((l.length - i : Nat) : Int) := by rw [wrap_in _ (by omega)]; omega
      have hcast : ((l.length : Int) - (i : Int)) = ((l.length - i : Nat) : Int) := by omega
      obtain ⟨t, hs⟩ : ∃ t, ∀ S nid, (exSlc 1 (.sl false (l.map encI)) none (some (.v (.int .i64 (i : Int))))).run S nid = some (.sl t ((l.take i).map encI), S) := by
        obtain ⟨t, h⟩ := slc_hi l false i (by omega) S 0
        refine ⟨t, fun S' nid => ?_⟩
        obtain ⟨t', h'⟩ := slc_hi l false i (by omega) S' nid
        have : t' = t := by
          simp only [exSlc, Eff.run_val, bnd, Option.bind_some] at h h'
          have e1 := h'
          have e2 := h
          simp only [Option.map_eq_some_iff, Prod.mk.injEq] at e1 e2
          obtain ⟨v1, a1, b1, _⟩ := e1
          obtain ⟨v2, a2, b2, _⟩ := e2
          rw [a1] at a2
          have : v1 = v2 := Option.some.inj a2
          rw [b1, b2] at this
          exact (AV.sl.inj this).1
        rw [this] at h'; exact h'
      have ka := ha (l.take i) (by first | (simp; done) | (simp; omega))
      have ka' : PureC P fa [encNet n, .sl t ((l.take i).map encI)] (encB (accN n (l.take i))) :=
        ka.weak rfl (fun j h1 h2 E v hv => by
          match j with
          | 0 => exact hv
          | 1 => exact hv.loose
          | j + 2 => simp at h1; omega)
      have ca := cl_cons (closed_Net n) (cl_cons (closed_map (t := t) Z2r (l.take i)) cl_nil)
      simp only [encNet, encI, encIs, List.map_take, List.map_drop] at ka' ca
      have da : ∀ m g', CallD P fa [.agg [.v (.int .i64 n.signs), encIss n.by_, encIss n.follow, .sl false (n.last.map encI)], .sl t ((l.map encI).take i)] ⟨m, g'⟩ [] (encB (accN n (l.take i))) := fun m g' => CallD.kl ka' ca (Z2o _)
      have hfl := filtL_len (hdP n l) i
      have hsucc := filtL_succ (hdP n l) i
      have hp : hdP n l i = accN n (l.take i) := rfl
      simp [e1, e2, e6, g0, hlt, hlt', encIs,  hs]
      refine ⟨_, ⟨_, da _ _⟩, ?_⟩
      cases hb : accN n (l.take i) with
      | false =>
        rw [hp, hb] at hsucc
        simp only [Bool.false_eq_true, if_false, List.append_nil] at hsucc
        simp [e6]
        rw [wrap_in _ (by omega)]
        refine ⟨by omega, ?_, ?_, ?_, g0', ?_, ?_, ?_⟩
        · simp [Z43, e1, encIs]
        · simp [Z43, e2]
        · simp [Z43, encI]
        · rw [hsucc]; simp [Z43]; exact hv.frame (fun _ _ => rfl)
        · simp [Z43]; exact ho
        · simp
      | true =>
        rw [hp, hb] at hsucc
        simp only [if_true] at hsucc
        simp [e6]
        rw [Vec.app (xs := (filtL (hdP n l) i).map encI) (hv.frame (fun _ _ => rfl)) (cells_I _) (by simp [AV.cells]) (appOk8 (by rw [List.length_map]; omega))]
        simp [e6, without_n]
        rw [wrap_in _ (by omega)]
        refine ⟨by omega, ?_, ?_, ?_, ?_, ?_, ?_, ?_⟩
        · simp [Z43, e1, encIs]
        · simp [Z43, e2]
        · simp [Z43, encI]
        · rw [Z4e, if_neg (by omega), without_g _ ho]; exact g0'
        · rw [hsucc, List.map_append]
          simp only [Z43, if_true]
          exact .mk' (by simp [Z4e, encI]) (by simp)
        · simp [Z43, AV.ids]
        · simp
    · have hlt' : ¬ (i : Int) ≤ l.length := by omega
      have hie : i = l.length + 1 := by omega
      simp [e1, e2, e6, hlt, hlt', encIs]
      rw [← hie]
      exact (hv.frame (fun _ _ => rfl)).fz Z2r
theorem Tails14_body {P : Program} {fa : FuncId} (n : Net) (l : List Int) (hl : l.length ≤ 1000000) (ha : ∀ m : List Int, m.length ≤ l.length → PureC P fa [encNet n, encIs m] (encB (accN n m))) : AW P (c_caesuraref14_Tails fa) (RetK [4] (FzK (encIs (filtL (tlP n l) (l.length + 1))))) (argF [encNet n, encIs l]) S0 := by
  simp [c_caesuraref14_Tails, encNet]
  refine AW_for (l.length + 1) (rhI n l (tlP n l)) ?_ ?_
  · refine ⟨?_, ?_, ?_, ?_, ?_, ?_, ?_⟩
    · simp [Z43, Z27, Z26, encIs]
    · simp [Z43]
    · simp [Z43, encI]
    · simp [Z4e, encNet, encI]
    · simp [Z43, filtL]; exact .nil
    · simp [Z43, AV.ids]
    · simp
  · rintro i f S hi ⟨e1, e2, e6, g0, hv, ho, hn⟩
    have g0' := g0
    simp only [encNet] at g0
    by_cases hlt : i ≤ l.length
    · have hlt' : (i : Int) ≤ l.length := by omega
      have hsub : IntKind.i64.wrap ((l.length : Int) - (i : Int)) = ((l.length - i : Nat) : Int) := by rw [wrap_in _ (by omega)]; omega
      have hcast : ((l.length : Int) - (i : Int)) = ((l.length - i : Nat) : Int) := by omega
      obtain ⟨t, hs⟩ : ∃ t, ∀ S nid, (exSlc 1 (.sl false (l.map encI)) (some (.v (.int .i64 ((l.length - i : Nat) : Int)))) none).run S nid = some (.sl t ((l.drop (l.length - i)).map encI), S) := by
        obtain ⟨t, h⟩ := slc_lo l false (l.length - i) (by omega) S 0
        refine ⟨t, fun S' nid => ?_⟩
        obtain ⟨t', h'⟩ := slc_lo l false (l.length - i) (by omega) S' nid
        have : t' = t := by
          simp only [exSlc, Eff.run_val, bnd, Option.bind_some] at h h'
          have e1 := h'
          have e2 := h
          simp only [Option.map_eq_some_iff, Prod.mk.injEq] at e1 e2
          obtain ⟨v1, a1, b1, _⟩ := e1
          obtain ⟨v2, a2, b2, _⟩ := e2
          rw [a1] at a2
          have : v1 = v2 := Option.some.inj a2
          rw [b1, b2] at this
          exact (AV.sl.inj this).1
        rw [this] at h'; exact h'
      have ka := ha (l.drop (l.length - i)) (by first | (simp; done) | (simp; omega))
      have ka' : PureC P fa [encNet n, .sl t ((l.drop (l.length - i)).map encI)] (encB (accN n (l.drop (l.length - i)))) :=
        ka.weak rfl (fun j h1 h2 E v hv => by
          match j with
          | 0 => exact hv
          | 1 => exact hv.loose
          | j + 2 => simp at h1; omega)
      have ca := cl_cons (closed_Net n) (cl_cons (closed_map (t := t) Z2r (l.drop (l.length - i))) cl_nil)
      simp only [encNet, encI, encIs, List.map_take, List.map_drop] at ka' ca
      have da : ∀ m g', CallD P fa [.agg [.v (.int .i64 n.signs), encIss n.by_, encIss n.follow, .sl false (n.last.map encI)], .sl t ((l.map encI).drop (l.length - i))] ⟨m, g'⟩ [] (encB (accN n (l.drop (l.length - i)))) := fun m g' => CallD.kl ka' ca (Z2o _)
      have hfl := filtL_len (tlP n l) i
      have hsucc := filtL_succ (tlP n l) i
      have hp : tlP n l i = accN n (l.drop (l.length - i)) := rfl
      simp [e1, e2, e6, g0, hlt, hlt', encIs, hsub, hs]
      refine ⟨_, ⟨_, da _ _⟩, ?_⟩
      cases hb : accN n (l.drop (l.length - i)) with
      | false =>
        rw [hp, hb] at hsucc
        simp only [Bool.false_eq_true, if_false, List.append_nil] at hsucc
        simp [e6]
        rw [wrap_in _ (by omega)]
        refine ⟨by omega, ?_, ?_, ?_, g0', ?_, ?_, ?_⟩
        · simp [Z43, e1, encIs]
        · simp [Z43, e2]
        · simp [Z43, encI]
        · rw [hsucc]; simp [Z43]; exact hv.frame (fun _ _ => rfl)
        · simp [Z43]; exact ho
        · simp
      | true =>
        rw [hp, hb] at hsucc
        simp only [if_true] at hsucc
        simp [e6]
        rw [Vec.app (xs := (filtL (tlP n l) i).map encI) (hv.frame (fun _ _ => rfl)) (cells_I _) (by simp [AV.cells]) (appOk8 (by rw [List.length_map]; omega))]
        simp [e6, without_n]
        rw [wrap_in _ (by omega)]
        refine ⟨by omega, ?_, ?_, ?_, ?_, ?_, ?_, ?_⟩
        · simp [Z43, e1, encIs]
        · simp [Z43, e2]
        · simp [Z43, encI]
        · rw [Z4e, if_neg (by omega), without_g _ ho]; exact g0'
        · rw [hsucc, List.map_append]
          simp only [Z43, if_true]
          exact .mk' (by simp [Z4e, encI]) (by simp)
        · simp [Z43, AV.ids]
        · simp
    · have hlt' : ¬ (i : Int) ≤ l.length := by omega
      have hie : i = l.length + 1 := by omega
      simp [e1, e2, e6, hlt, hlt', encIs]
      rw [← hie]
      exact (hv.frame (fun _ _ => rfl)).fz Z2r
def bkI (l : List Int) (i : Nat) (f : AF) (S : St) : Prop := f 0 = encIs l ∧ f 4 = encI ((l.length : Int) - 1 - i) ∧ Vec S.g (f 3) 1 (((l.reverse).take i).map encI)
theorem Back11_body {P : Program} (l : List Int) (hl : l.length ≤ 1000000) : AW P c_caesuraref11_Back (RetK [2] (FzK (encIs l.reverse))) (argF [encIs l]) S0 := by
  have hw0 := wrap_in ((l.length : Int) - 1) (by omega)
  simp [c_caesuraref11_Back, encIs, hw0]
  refine AW_for l.length (bkI l) ?_ ?_
  · refine ⟨?_, ?_, ?_⟩
    · simp [Z43, Z27, encIs]
    · simp [Z43, encI]
    · simp [Z43]; exact .nil
  · rintro i f S hi ⟨e0, e4, hv⟩
    by_cases hlt : i < l.length
    · have h0 : (0 : Int) ≤ (l.length : Int) - 1 - i := by omega
      have h0' : (i : Int) ≤ (l.length : Int) - 1 := by omega
      have hg : l[((l.length : Int) - 1 - i).toNat]? = some (l[l.length - 1 - i]'(by omega)) := by
        rw [show ((l.length : Int) - 1 - i).toNat = l.length - 1 - i by omega]
        exact List.getElem?_eq_getElem (by omega)
      have hr : l.reverse.take (i + 1) = l.reverse.take i ++ [l[l.length - 1 - i]'(by omega)] := by
        rw [List.take_add_one, List.getElem?_eq_getElem (by simpa using hlt), List.getElem_reverse]; rfl
      have hg2 : l[l.length - 1 - i]? = some (l[l.length - 1 - i]'(by omega)) := List.getElem?_eq_getElem (by omega)
      simp [e0, e4, encIs, h0, h0', hg, hg2]
      rw [Vec.app (xs := (l.reverse.take i).map encI) (hv.frame (fun _ _ => rfl)) (cells_I _) (by simp [AV.cells]) (appOk8 (by simp; omega))]
      simp [e4]
      rw [wrap_in _ (by omega)]
      refine ⟨hlt, ?_, ?_, ?_⟩
      · simp [Z43, e0, encIs]
      · simp [Z43, encI]; omega
      · rw [hr, List.map_append]
        simp only [Z43, if_true]
        exact .mk' (by simp [Z4e, encI]) (by simp)
    · have h0 : ¬ (0 : Int) ≤ (l.length : Int) - 1 - i := by omega
      have h0' : ¬ (i : Int) ≤ (l.length : Int) - 1 := by omega
      have ht : l.reverse.take i = l.reverse := List.take_of_length_le (by simp; omega)
      rw [ht] at hv
      simp [e0, e4, encIs, h0, h0']
      rw [← List.map_reverse]
      exact (hv.frame (fun _ _ => rfl)).fz Z2r
/-- What turned hands back: a net and a list. -/
theorem back_turned_body {P : Program} {ft fc fv : FuncId} (n m : Net) (e : Int) (l : List Int) (hl : l.length ≤ 1000000) (h1 : PureC P ft [encNet n] (.tup [encNet m, encI e])) (h2 : ByC P fc (c_cloneOv 1 8 (.v (.int .i64 0))) [.t 2] 1) (h3 : HRev P fv) (h4 : PureC P fv [.sl true []] (.tup [])) :
    AW P (c_back_turned ft fc fv) (RetC [.c 4 (some 4), .t 5] (FzK (.tup [encNet m, encIs l.reverse]))) (argF [encNet n, encIs l]) S0 := by
  have c1 := cl_cons (closed_Net n) cl_nil
  have cm : Closed (.tup [encNet m, encI e]) := .tup _ (cl_cons (closed_Net m) (cl_cons (Z2r e) cl_nil))
  have mc : (encNet m).cells.length = 4 := rfl
  have ms : (encNet m).solid = true := rfl
  have mput : ∀ x : AV, x.cells.length = 4 → putc x 0 (encNet m) = encNet m := by
    intro x hx
    have : x.cells.drop 4 = [] := by rw [List.drop_eq_nil_iff]; omega
    cases x <;> simp_all [putc, AV.cells, encNet]
  have h1' := h1
  simp only [encNet, encI] at c1 h1' cm
  by_cases h0 : l = []
  · subst h0
    have hb : exBslice 1 0 (.v (.int .i64 0)) [] = some (.sl true []) := exBslice_nil _ _
    have hr : ∀ S : St, ∀ nid, (exApp 1 8 (.sl true []) (.sl false [])).run S nid = some (.sl true [], S) := by
      intro S nid
      simp [exApp, lstE, AV.oid, Eff.run, St.setL, St.setO, appOk]
    simp [c_back_turned, encNet, encIs]
    refine CallR.pure h1' c1 cm ?_
    simp
    refine h2 rfl ?_
    simp [c_cloneOv, hb, hr]
    refine ⟨[.sl true []], by simp [evC, RV.ev, Z43], ?_⟩
    simp [packC]
    refine CallR.pure h4 (cl_cons (.sl _ _ (by simp)) cl_nil) (.tup _ (by simp)) ?_
    simp
    refine ⟨[encNet m, .sl true []], by simp [evC, RV.ev, Z43, Z42, ev_c, ldC, Z4e, subc, encNet, encI, encIs, Z2f], ?_⟩
    refine .tup _ _ rfl (fun i a b => ?_)
    match i with
    | 0 => exact .closed _ (closed_Net m)
    | 1 => exact .loose true [] (.sl _ _ (by simp))
    | i + 2 => exact absurd (show i + 2 < 2 from a) (by omega)
  · have hne : 0 < l.length := List.length_pos_iff.mpr h0
    have hb : exBslice 1 0 (.v (.int .i64 0)) [] = some (.sl true []) := exBslice_nil _ _
    have hr : ∀ S : St, ∀ nid, (exApp 1 8 (.sl true []) (.sl false (l.map encI))).run S nid = some (.own nid 0 l.length, S.set nid (some (.arr 1 (l.map encI)))) := by
      intro S nid
      have ha : appOk 8 0 l.length := by unfold appOk; omega
      have hc2 : ∀ x ∈ l.map encI, x.cells.length = 1 := cells_I l
      have h3 : lstE 1 [] (.sl false (l.map encI)) = some (l.map encI) := by simp only [lstE]; rw [if_pos hc2]
      simp only [exApp, Eff.run, AV.oid, List.mapM_nil, Option.pure_def, h3, Option.bind_some, List.length_nil, Nat.zero_add, List.length_map, ha, and_true]
      rw [if_pos (by simp), if_neg (by simpa using h0)]
      simp [St.setL, St.setO]
    simp [c_back_turned, encNet, encIs]
    refine CallR.pure h1' c1 cm ?_
    simp
    refine h2 rfl ?_
    simp [c_cloneOv, hb, hr]
    refine ⟨[.own 17 0 l.length], by simp [evC, RV.ev, Z43], ?_⟩
    simp [packC]
    refine h3 _ _ l _ (by simp [Z4e]) hl (fun k hk => ?_)
    simp
    refine ⟨[encNet m, .own 17 0 l.length], by simp [evC, RV.ev, Z43, Z42, ev_c, ldC, Z4e, subc, encNet, encI, encIs, Z2f], ?_⟩
    refine .tup _ _ rfl (fun i a b => ?_)
    match i with
    | 0 => exact .closed _ (closed_Net m)
    | 1 =>
      show Fz _ (.own 17 0 l.length) (.sl false (l.map encI).reverse)
      rw [← List.map_reverse]
      exact (Vec.mk' (es := 1) (xs := l.reverse.map encI) (by simp [Z4e]) (by simp)).fz Z2r
    | i + 2 => exact absurd (show i + 2 < 2 from a) (by omega)
theorem back_Tails_body {P : Program} {ft fh : FuncId} (n m : Net) (l : List Int) (r : List Int) (h1 : PureC P ft [encNet n, encIs l] (.tup [encNet m, encIs l.reverse])) (h2 : PureC P fh [encNet m, encIs l.reverse] (encIs r)) :
    AW P (c_back_Tails ft fh) (RetK [4] (FzK (encIs r))) (argF [encNet n, encIs l]) S0 := by
  have c1 := cl_cons (closed_Net n) (cl_cons (Z2s l) cl_nil)
  have c2 := cl_cons (closed_Net m) (cl_cons (Z2s l.reverse) cl_nil)
  have cm : Closed (.tup [encNet m, encIs l.reverse]) := .tup _ c2
  have h1' := h1
  simp only [encNet, encI] at c1 h1'
  simp [c_back_Tails, encNet]
  refine CallR.pure h1' c1 (.tup _ c2) ?_
  simp
  refine CallR.pure h2 c2 (Z2s _) ?_
  simp
  exact .closed _ (Z2s _)
theorem back_Tail_body {P : Program} {ft fh : FuncId} (n m : Net) (l : List Int) (r : Bool) (h1 : PureC P ft [encNet n, encIs l] (.tup [encNet m, encIs l.reverse])) (h2 : PureC P fh [encNet m, encIs l.reverse] (encB r)) :
    AW P (c_back_Tail ft fh) (RetK [4] (FzK (encB r))) (argF [encNet n, encIs l]) S0 := by
  have c1 := cl_cons (closed_Net n) (cl_cons (Z2s l) cl_nil)
  have c2 := cl_cons (closed_Net m) (cl_cons (Z2s l.reverse) cl_nil)
  have h1' := h1
  simp only [encNet, encI] at c1 h1'
  simp [c_back_Tail, encNet]
  refine CallR.pure h1' c1 (.tup _ c2) ?_
  simp
  refine CallR.pure h2 c2 (Z2o _) ?_
  simp
  exact FzK_B _ _
end Go.Rf


/- Own work: several lists of one's own, of whatever elements, apart from one another. -/
set_option linter.unusedVariables false
set_option linter.unusedSimpArgs false
namespace Go.Rf
open Go.RowKit
structure ARows (g : Nat → Option Blk) (n : Nat) (av : List Nat) (vs : List AV) (ls : List (List AV)) : Prop where
  len : vs.length = ls.length
  row : ∀ t (h : t < vs.length) (h' : t < ls.length), Vec g vs[t] 1 (ls[t])
  sep : vs.Pairwise (fun a b => ∀ i ∈ a.ids, i ∉ b.ids)
  out : ∀ v ∈ vs, ∀ i ∈ v.ids, i < n ∧ i ∉ av
theorem ARows.nil {g : Nat → Option Blk} {n : Nat} {av : List Nat} : ARows g n av [] [] := ⟨rfl, fun t h => by simp at h, .nil, by simp⟩
theorem ARows.cons {g : Nat → Option Blk} {n : Nat} {av : List Nat} {vs : List AV} {ls : List (List AV)} {v : AV} {l : List AV} (hv : Vec g v 1 l) (ho : ∀ i ∈ v.ids, i < n ∧ i ∉ av) (hs : ∀ w ∈ vs, ∀ i ∈ v.ids, i ∉ w.ids) (h : ARows g n av vs ls) :
    ARows g n av (v :: vs) (l :: ls) := by
  refine ⟨by simp [h.len], fun t h1 h2 => ?_, List.pairwise_cons.mpr ⟨hs, h.sep⟩, fun w hw => ?_⟩
  · cases t with
    | zero => exact hv
    | succ t => exact h.row t (by simpa using h1) (by simpa using h2)
  · rcases List.mem_cons.mp hw with rfl | hw
    · exact ho
    · exact h.out w hw
theorem ARows.head {g : Nat → Option Blk} {n : Nat} {av : List Nat} {vs : List AV} {ls : List (List AV)} {v : AV} {l : List AV} (h : ARows g n av (v :: vs) (l :: ls)) :
    Vec g v 1 l ∧ (∀ i ∈ v.ids, i < n ∧ i ∉ av) ∧ (∀ w ∈ vs, ∀ i ∈ v.ids, i ∉ w.ids) ∧ ARows g n av vs ls := by
  have hp := List.pairwise_cons.mp h.sep
  refine ⟨h.row 0 (by simp) (by simp), h.out v (by simp), hp.1, by have := h.len; simpa using this, fun t h1 h2 => ?_, hp.2, fun w hw => h.out w (by simp [hw])⟩
  exact h.row (t + 1) (by simpa using h1) (by simpa using h2)
theorem ARows.frame {g g' : Nat → Option Blk} {n n' : Nat} {av : List Nat} {vs : List AV} {ls : List (List AV)} (h : ARows g n av vs ls) (hn : n ≤ n') (hg : ∀ v ∈ vs, ∀ i ∈ v.ids, g' i = g i) : ARows g' n' av vs ls :=
  ⟨h.len, fun t h1 h2 => (h.row t h1 h2).frame (fun i hi => hg _ (List.getElem_mem h1) i hi), h.sep, fun v hv i hi => ⟨Nat.lt_of_lt_of_le (h.out v hv i hi).1 hn, (h.out v hv i hi).2⟩⟩
theorem ARows.snoc {g : Nat → Option Blk} {n : Nat} {av : List Nat} {vs : List AV} {ls : List (List AV)} {v : AV} {l : List AV} (h : ARows g n av vs ls) (hv : Vec g v 1 l) (ho : ∀ i ∈ v.ids, i < n ∧ i ∉ av) (hs : ∀ w ∈ vs, ∀ i ∈ w.ids, i ∉ v.ids) :
    ARows g n av (vs ++ [v]) (ls ++ [l]) := by
  refine ⟨by simp [h.len], fun t h1 h2 => ?_, ?_, fun w hw => ?_⟩
  · by_cases ht : t < vs.length
    · have ht2 : t < ls.length := by rw [← h.len]; exact ht
      rw [List.getElem_append_left ht, List.getElem_append_left ht2]; exact h.row t ht ht2
    · have e : t = vs.length := by simp at h1; omega
      have e2 : t = ls.length := by rw [← h.len]; exact e
      rw [List.getElem_append_right (by omega), List.getElem_append_right (by omega)]
      simp [e, ← h.len]; exact hv
  · rw [List.pairwise_append]
    exact ⟨h.sep, by simp, fun a ha b hb => by simp at hb; subst hb; exact hs a ha⟩
  · rcases List.mem_append.mp hw with hw | hw
    · exact h.out w hw
    · simp at hw; subst hw; exact ho
/-- A list that grows, with what it looked at and wrote. -/
theorem Vec.appT {g : Nat → Option Blk} {n : Nat} {v : AV} {es : Nat} {xs : List AV} {nid : Nat} {x : AV} {by_ : Nat} (h : Vec g v es xs) (hes : ∀ z ∈ xs, z.cells.length = es) (hx : x.cells.length = es) (hok : appOk by_ xs.length 1) :
    (exApp es by_ v (.sl true [x])).runT ⟨n, g⟩ nid = some (.own nid 0 (xs.length + 1), (St.without ⟨n, g⟩ v).set nid (some (.arr es (xs ++ [x]))), v.ids, v.ids ++ [nid]) := by
  rcases h with ⟨rfl, rfl⟩ | ⟨id, off, ys, rfl, h1, h2, h3⟩
  · simp only [List.length_nil] at hok
    simp [exApp, Eff.runT, AV.oid, lstE, hx, hok, St.without, St.setL, St.setO, AV.ids]
  · have hl : off + xs.length = ys.length := by rw [← h3]; simp; omega
    simp [exApp, Eff.runT, AV.oid, lstE, hx, hok, St.without, St.setL, St.setO, h1, hl, h3, AV.ids]
theorem Vec.fzL {g : Nat → Option Blk} {v : AV} {es : Nat} {xs zs : List AV} (h : Vec g v es xs) (hl : zs.length = xs.length) (hz : ∀ i (h1 : i < xs.length) (h2 : i < zs.length), Fz g (xs[i]) (zs[i])) : Fz g v (.sl false zs) := by
  rcases h with ⟨rfl, h0⟩ | ⟨id, off, ys, rfl, h1, h2, h3⟩
  · subst h0
    have : zs = [] := List.eq_nil_of_length_eq_zero hl
    subst this; exact .loose true [] (.sl _ _ (by simp))
  · have hle : off + xs.length = ys.length := by rw [← h3]; simp; omega
    have ht : (ys.drop off).take xs.length = xs := by rw [h3, List.take_length]
    refine .own id off _ es ys zs h1 (by omega) hl (fun i k1 k2 => ?_)
    simp only [ht] at k1 ⊢
    exact hz i k1 k2
end Go.Rf

