import Derived.Test.YtidkjfaeolfcaaaGreatRfB16
import Derived.Test.YtidkjfaeolfcaaaGreatRfB3
set_option linter.unusedVariables false
set_option linter.unusedSimpArgs false
namespace Go.Rf
def c_md_c : AC :=
  (.seq (.reg none [
      ⟨(some 36), .mv (.t 2), none, none⟩,
      ⟨(some 37), .bin .eql (.t 36) (.c (.v (.int .i64 0))), none, none⟩,
      ⟨(some 38), .mv (.t 37), none, none⟩,
      ⟨(some 39), .mv (.t 10), (some (38, true)), none⟩,
      ⟨(some 40), .un .not (.t 39), (some (38, true)), none⟩,
      ⟨(some 41), .pick (.t 38) (.t 40) (.c (.v (.bool false))), none, none⟩,
      ⟨(some 42), .mv (.t 41), none, none⟩,
      ⟨(some 43), .mv (.t 11), (some (42, true)), none⟩,
      ⟨(some 44), .un .not (.t 43), (some (42, true)), none⟩,
      ⟨(some 45), .pick (.t 42) (.t 44) (.c (.v (.bool false))), none, none⟩,
      ⟨(some 46), .mv (.t 45), none, none⟩,
      ⟨(some 47), .mv (.t 2), (some (46, false)), none⟩,
      ⟨(some 48), .bin .eql (.t 47) (.c (.v (.int .i64 1))), (some (46, false)), none⟩,
      ⟨(some 49), .mv (.t 48), (some (46, false)), none⟩,
      ⟨(some 50), .mv (.t 10), (some (49, true)), none⟩,
      ⟨(some 51), .un .not (.t 50), (some (49, true)), none⟩,
      ⟨(some 52), .mv (.t 51), (some (49, true)), none⟩,
      ⟨(some 53), .mv (.t 11), (some (52, false)), none⟩,
      ⟨(some 54), .un .not (.t 53), (some (52, false)), none⟩,
      ⟨(some 55), .pick (.t 52) (.c (.v (.bool true))) (.t 54), (some (49, true)), none⟩,
      ⟨(some 56), .pick (.t 49) (.t 55) (.c (.v (.bool false))), (some (46, false)), none⟩,
      ⟨(some 57), .pick (.t 46) (.c (.v (.bool true))) (.t 56), none, none⟩,
      ⟨(some 58), .mv (.t 57), none, none⟩,
      ⟨(some 59), .mv (.t 2), (some (58, false)), none⟩,
      ⟨(some 60), .bin .eql (.t 59) (.c (.v (.int .i64 2))), (some (58, false)), none⟩,
      ⟨(some 61), .mv (.t 60), (some (58, false)), none⟩,
      ⟨(some 62), .mv (.t 10), (some (61, true)), none⟩,
      ⟨(some 63), .un .not (.t 62), (some (61, true)), none⟩,
      ⟨(some 64), .mv (.t 63), (some (61, true)), none⟩,
      ⟨(some 65), .mv (.t 11), (some (64, false)), none⟩,
      ⟨(some 66), .pick (.t 64) (.c (.v (.bool true))) (.t 65), (some (61, true)), none⟩,
      ⟨(some 67), .pick (.t 61) (.t 66) (.c (.v (.bool false))), (some (58, false)), none⟩,
      ⟨(some 68), .pick (.t 58) (.c (.v (.bool true))) (.t 67), none, none⟩])
     (.cond (.t 68) (.exit 1) .skip))
def c_md_add : AC :=
  (.seq (.reg none [
      ⟨(some 80), .mv (.t 7), none, none⟩,
      ⟨(some 81), .len (.t 80), none, none⟩,
      ⟨(some 13), .mv (.t 81), none, none⟩])
     (.seq (.reg (some []) [
      ⟨(some 82), .mv (.t 13), none, none⟩,
      ⟨(some 83), .bin .gtr (.t 82) (.c (.v (.int .i64 0))), none, none⟩,
      ⟨(some 84), .mv (.t 83), none, none⟩,
      ⟨(some 85), .mv (.t 7), (some (84, true)), none⟩,
      ⟨(some 86), .mv (.t 13), (some (84, true)), none⟩,
      ⟨(some 87), .bin .sub (.t 86) (.c (.v (.int .i64 1))), (some (84, true)), none⟩,
      ⟨(some 88), .idxA 2 (.t 85) (.t 87), (some (84, true)), none⟩,
      ⟨(some 89), .fieldA 1 (.t 88), (some (84, true)), none⟩,
      ⟨(some 90), .load none (.t 89), (some (84, true)), none⟩,
      ⟨(some 91), .bin .add (.t 90) (.c (.v (.int .i64 1))), (some (84, true)), none⟩,
      ⟨(some 92), .mv (.t 8), (some (84, true)), none⟩,
      ⟨(some 93), .mv (.t 9), (some (84, true)), none⟩,
      ⟨(some 94), .idxA 1 (.t 92) (.t 93), (some (84, true)), none⟩,
      ⟨(some 95), .load none (.t 94), (some (84, true)), none⟩,
      ⟨(some 96), .bin .eql (.t 91) (.t 95), (some (84, true)), none⟩,
      ⟨(some 97), .pick (.t 84) (.t 96) (.c (.v (.bool false))), none, none⟩])
     (.cond (.t 97) (.reg none [
       ⟨(some 98), .mv (.t 7), none, none⟩,
       ⟨(some 99), .mv (.t 13), none, none⟩,
       ⟨(some 100), .bin .sub (.t 99) (.c (.v (.int .i64 1))), none, none⟩,
       ⟨(some 101), .mv (.t 12), none, none⟩,
       ⟨(some 102), .idxA 2 (.t 98) (.t 100), none, none⟩,
       ⟨(some 103), .fieldA 1 (.t 102), none, none⟩,
       ⟨none, .store 1 (.t 103) (.t 101), none, none⟩]) (.reg none [
       ⟨(some 104), .mv (.t 7), none, none⟩,
       ⟨(some 105), .mv (.t 8), none, none⟩,
       ⟨(some 106), .mv (.t 9), none, none⟩,
       ⟨(some 107), .idxA 1 (.t 105) (.t 106), none, none⟩,
       ⟨(some 108), .load none (.t 107), none, none⟩,
       ⟨(some 109), .mv (.t 12), none, none⟩,
       ⟨(some 110), .build (.agg [(.v (.int .i64 0)), (.v (.int .i64 0))]) [(0, 1), (1, 1)] [(0, (.t 108)), (1, (.t 109))], none, none⟩,
       ⟨(some 111), .bslice 2 1 (.agg [(.v (.int .i64 0)), (.v (.int .i64 0))]) [(0, (.t 110))], none, none⟩,
       ⟨(some 112), .app 2 16 (.t 104) (.t 111), none, none⟩,
       ⟨(some 7), .mv (.t 112), none, none⟩]))))
def c_md_end : AC :=
  (.seq (.reg none [
      ⟨(some 12), .mv (.c (.v (.int .i64 1114111))), none, none⟩])
     (.seq (.seq (.reg none [
      ⟨(some 69), .mv (.t 9), none, none⟩,
      ⟨(some 70), .bin .add (.t 69) (.c (.v (.int .i64 1))), none, none⟩,
      ⟨(some 71), .mv (.t 8), none, none⟩,
      ⟨(some 72), .len (.t 71), none, none⟩,
      ⟨(some 73), .bin .lss (.t 70) (.t 72), none, none⟩])
     (.cond (.t 73) (.reg none [
       ⟨(some 74), .mv (.t 8), none, none⟩,
       ⟨(some 75), .mv (.t 9), none, none⟩,
       ⟨(some 76), .bin .add (.t 75) (.c (.v (.int .i64 1))), none, none⟩,
       ⟨(some 77), .idxA 1 (.t 74) (.t 76), none, none⟩,
       ⟨(some 78), .load none (.t 77), none, none⟩,
       ⟨(some 79), .bin .sub (.t 78) (.c (.v (.int .i64 1))), none, none⟩,
       ⟨(some 12), .mv (.t 79), none, none⟩]) .skip))
     c_md_add))
def c_md_one (f_caesuraref01_Has : FuncId) : AC :=
  (.block 1 (.seq (.reg (some []) [
      ⟨(some 24), .mv (.t 0), none, none⟩,
      ⟨(some 25), .mv (.t 8), none, none⟩,
      ⟨(some 26), .mv (.t 9), none, none⟩,
      ⟨(some 27), .idxA 1 (.t 25) (.t 26), none, none⟩,
      ⟨(some 28), .load none (.t 27), none, none⟩,
      ⟨(some 29), .mv (.c .junk), none, (some ((.c (.clo f_caesuraref01_Has [] [])), [(.t 24), (.t 28)]))⟩,
      ⟨(some 30), .mv (.t 1), none, none⟩,
      ⟨(some 31), .mv (.t 8), none, none⟩,
      ⟨(some 32), .mv (.t 9), none, none⟩,
      ⟨(some 33), .idxA 1 (.t 31) (.t 32), none, none⟩,
      ⟨(some 34), .load none (.t 33), none, none⟩,
      ⟨(some 35), .mv (.c .junk), none, (some ((.c (.clo f_caesuraref01_Has [] [])), [(.t 30), (.t 34)]))⟩,
      ⟨(some 10), .mv (.t 29), none, none⟩,
      ⟨(some 11), .mv (.t 35), none, none⟩])
     (.seq c_md_c
     c_md_end)))
def c_md_loop (f_caesuraref01_Has : FuncId) : AC :=
  (.block 0 (.loop (.seq (.seq (.reg none [
     ⟨(some 18), .mv (.t 9), none, none⟩,
     ⟨(some 19), .mv (.t 8), none, none⟩,
     ⟨(some 20), .len (.t 19), none, none⟩,
     ⟨(some 21), .bin .lss (.t 18) (.t 20), none, none⟩])
    (.cond (.t 21) .skip (.exit 0)))
    (.seq (c_md_one f_caesuraref01_Has)
    (.reg none [
     ⟨(some 22), .mv (.t 9), none, none⟩,
     ⟨(some 23), .bin .add (.t 22) (.c (.v (.int .i64 1))), none, none⟩,
     ⟨(some 9), .mv (.t 23), none, none⟩])))))
def c_caesuraref01_made (f_caesuraref01_Edges f_caesuraref01_Has : FuncId) : AC :=
  (.seq (.reg none [
   ⟨(some 6), .mv (.c (.sl true [])), none, none⟩])
  (.seq (.reg none [
   ⟨(some 7), .mv (.c (.sl true [])), none, none⟩])
  (.seq (.reg none [
   ⟨(some 14), .mv (.t 0), none, none⟩,
   ⟨(some 15), .mv (.t 1), none, none⟩,
   ⟨(some 16), .bslice 1 2 (.sl true []) [(0, (.t 14)), (1, (.t 15))], none, none⟩,
   ⟨(some 17), .mv (.c .junk), none, (some ((.c (.clo f_caesuraref01_Edges [] [])), [(.t 16)]))⟩,
   ⟨(some 8), .mv (.t 17), none, none⟩])
  (.seq (.seq (.reg none [
   ⟨(some 9), .mv (.c (.v (.int .i64 0))), none, none⟩])
  (c_md_loop f_caesuraref01_Has))
  (.seq (.reg none [
   ⟨(some 113), .mv (.t 7), none, none⟩,
   ⟨(some 6), .mv (.t 113), none, none⟩])
  .ret)))))
def condK (kind : Int) (x y : Bool) : Bool := (kind == 0 && (!x && !y)) || (kind == 1 && (!x || !y)) || (kind == 2 && (!x || y))
def lastR (out : List Rg) : Rg := out.getD (out.length - 1) ⟨0, 0⟩
def addR (out : List Rg) (lo hi : Int) : List Rg := if 0 < out.length ∧ (lastR out).high + 1 = lo then out.set (out.length - 1) ⟨(lastR out).low, hi⟩ else out ++ [⟨lo, hi⟩]
def toE (e : List Int) (i : Nat) : Int := if i + 1 < e.length then e.getD (i + 1) 0 - 1 else 1114111
def made1 (a b : List Rg) (kind : Int) (e : List Int) (out : List Rg) (i : Nat) : List Rg :=
  if condK kind (hasR a (e.getD i 0)) (hasR b (e.getD i 0)) = true then out else addR out (e.getD i 0) (toE e i)
def madeF (a b : List Rg) (kind : Int) : List Rg := (List.range (edgesF [a, b]).length).foldl (made1 a b kind (edgesF [a, b])) []
theorem cells_R (l : List Rg) : ∀ z ∈ l.map encR, z.cells.length = 2 := by
  intro z hz
  obtain ⟨r, _, rfl⟩ := List.mem_map.mp hz
  rfl
/-- What made has so far. -/
structure MSt (a b : List Rg) (kind : Int) (e : List Int) (i : Nat) (out : List Rg) (f : AF) (S : St) : Prop where
  e0 : f 0 = encRs a
  e1 : f 1 = encRs b
  e2 : f 2 = encI kind
  e8 : f 8 = encIs e
  e9 : f 9 = encI i
  v : (f 7 = .sl true [] ∧ out = []) ∨ ∃ id, f 7 = .own id 0 out.length ∧ S.g id = some (.arr 2 (out.map encR)) ∧ 0 < out.length
theorem MSt.vec {a b : List Rg} {kind : Int} {e : List Int} {i : Nat} {out : List Rg} {f : AF} {S : St} (h : MSt a b kind e i out f S) : Vec S.g (f 7) 2 (out.map encR) := by
  rcases h.v with ⟨h1, h2⟩ | ⟨id, h1, h2, _⟩
  · rw [h1, h2]; exact .nil
  · rw [h1]; exact .mk' h2 (by simp)
theorem md_add {P : Program} {a b : List Rg} {kind : Int} {e : List Int} {i : Nat} {out : List Rg} {hi : Int} (hil : i < e.length) (hel : e.length ≤ 100000) (hol : out.length ≤ 100000) (hb : ∀ r ∈ out, -1 ≤ r.high ∧ r.high ≤ 1114111) {f : AF} {S : St} {Q : Exit → AF → St → Prop}
    (st : MSt a b kind e i out f S) (e12 : f 12 = encI hi) (hq : ∀ f' S', MSt a b kind e i (addR out e[i] hi) f' S' → Q .normal f' S') : AW P c_md_add Q f S := by
  obtain ⟨e0, e1, e2, e8, e9, v⟩ := id st
  have hvec := st.vec
  have hiI : (i : Int) < e.length := by omega
  have hge : e[i]? = some e[i] := List.getElem?_eq_getElem hil
  have fin : ∀ {f' : AF} {S' : St} {out' : List Rg}, addR out e[i] hi = out' → (∀ j, j = 0 ∨ j = 1 ∨ j = 2 ∨ j = 8 ∨ j = 9 → f' j = f j) → (∃ id, f' 7 = .own id 0 out'.length ∧ S'.g id = some (.arr 2 (out'.map encR)) ∧ 0 < out'.length) → Q .normal f' S' := by
    intro f' S' out' he hf hv
    exact hq _ _ ⟨by rw [hf 0 (by simp), e0], by rw [hf 1 (by simp), e1], by rw [hf 2 (by simp), e2], by rw [hf 8 (by simp), e8], by rw [hf 9 (by simp), e9], .inr (by rw [he]; exact hv)⟩
  rcases v with ⟨e7, rfl⟩ | ⟨id, e7, gi, h0⟩
  · simp [Z0h, Z0c, Z0d, Z09, Z0a, Z0i, Z0b, Z0f, Z0g, Z2z, Z2y, Z07, Z08, Z06, Z01, Z02, Z00, Z04, Z05, Z03, Z1z, Z1y, Z46, Z48, Z47, Z45, Z1n, Z1o, Z1m, Z3n, Z3k, Z3m, Z3l, Z3o, Z1l, Z29, Z32, Z3x, Z1i, Z1j, Z1k, Z3v, Z3w, Z1g, Z28, Z1h, Z3i, Z3f, Z3h, Z3g, Z3j, Z41, Z40, Z0t, Z0u, Z0v, Z0s, Z1f, Z4c, Z4b, Z4d, Z4a, Z49, ex, Z43, Z42, ev_t, ev_c, Z27, Z26, Z4e, Z4f, Z2m, Z2l, Z2f, Z2j, Z2k, Z2g, Z2h, Z2i, putc, exBslice, lfill, exField, exIdxV, exIdxP, exBox, exAlloc, exLoad, exStore, exFieldA, exIdxA, exLen, exPick, exUn, exBeq, exMM, exSeq, seqGo, exExt, binV, intOp, subc, AV.solid, S0, encI, encB, c_md_add, e7, e8, e9, e12, encIs, hiI, hil, hge, exBuild, afill]
    rw [Vec.app (es := 2) (xs := []) .nil (by simp) (by simp [AV.cells]) (by unfold appOk; simp)]
    simp [Z0h, Z0c, Z0d, Z09, Z0a, Z0i, Z0b, Z0f, Z0g, Z2z, Z2y, Z07, Z08, Z06, Z01, Z02, Z00, Z04, Z05, Z03, Z1z, Z1y, Z46, Z48, Z47, Z45, Z1n, Z1o, Z1m, Z3n, Z3k, Z3m, Z3l, Z3o, Z1l, Z29, Z32, Z3x, Z1i, Z1j, Z1k, Z3v, Z3w, Z1g, Z28, Z1h, Z3i, Z3f, Z3h, Z3g, Z3j, Z41, Z40, Z0t, Z0u, Z0v, Z0s, Z1f, Z4c, Z4b, Z4d, Z4a, Z49, ex, Z43, Z42, ev_t, ev_c, Z27, Z26, Z4e, Z4f, Z2m, Z2l, Z2f, Z2j, Z2k, Z2g, Z2h, Z2i, putc, exBslice, lfill, exField, exIdxV, exIdxP, exBox, exAlloc, exLoad, exStore, exFieldA, exIdxA, exLen, exPick, exUn, exBeq, exMM, exSeq, seqGo, exExt, binV, intOp, subc, AV.solid, S0, encI, encB]
    refine fin (out' := [⟨e[i], hi⟩]) (by simp [addR]) ?_ ⟨S.n + 27, ?_, ?_, by simp⟩
    · intro j hj; rcases hj with rfl | rfl | rfl | rfl | rfl <;> simp [Z43]
    · simp [Z43]
    · simp [Z4e, encR, encI]
  · have hlast : lastR out = out[out.length - 1] := by simp [lastR, List.getD_eq_getElem?_getD, List.getElem?_eq_getElem (show out.length - 1 < out.length by omega)]
    have hN : ((out.length : Int) - 1).toNat = out.length - 1 := by omega
    have hI1 : 0 ≤ (out.length : Int) - 1 := by omega
    have hI2 : (out.length : Int) - 1 < out.length := by omega
    have hI3 : (0 : Int) < out.length := by omega
    have hI4 : (1 : Int) ≤ out.length := by omega
    have hN1 : out.length - 1 < out.length := by omega
    have hw1 : IntKind.i64.wrap ((out.length : Int) - 1) = (out.length : Int) - 1 := wrap_in _ (by omega)
    have hgo : out[out.length - 1]? = some out[out.length - 1] := List.getElem?_eq_getElem hN1
    have hbl := hb out[out.length - 1] (List.getElem_mem hN1)
    generalize hx : out[out.length - 1] = x at *
    obtain ⟨lo', hi'⟩ := x
    have hw2 : IntKind.i64.wrap (hi' + 1) = hi' + 1 := wrap_in _ (by simp only at hbl; omega)
    by_cases hm : hi' + 1 = e[i]
    · have hc : (hi' + 1 == e[i]) = true := by simp [hm]
      simp [Z0h, Z0c, Z0d, Z09, Z0a, Z0i, Z0b, Z0f, Z0g, Z2z, Z2y, Z07, Z08, Z06, Z01, Z02, Z00, Z04, Z05, Z03, Z1z, Z1y, Z46, Z48, Z47, Z45, Z1n, Z1o, Z1m, Z3n, Z3k, Z3m, Z3l, Z3o, Z1l, Z29, Z32, Z3x, Z1i, Z1j, Z1k, Z3v, Z3w, Z1g, Z28, Z1h, Z3i, Z3f, Z3h, Z3g, Z3j, Z41, Z40, Z0t, Z0u, Z0v, Z0s, Z1f, Z4c, Z4b, Z4d, Z4a, Z49, ex, Z43, Z42, ev_t, ev_c, Z27, Z26, Z4e, Z4f, Z2m, Z2l, Z2f, Z2j, Z2k, Z2g, Z2h, Z2i, putc, exBslice, lfill, exField, exIdxV, exIdxP, exBox, exAlloc, exLoad, exStore, exFieldA, exIdxA, exLen, exPick, exUn, exBeq, exMM, exSeq, seqGo, exExt, binV, intOp, subc, AV.solid, S0, encI, encB, c_md_add, e7, e8, e9, e12, gi, encIs, encR, hiI, hil, hge, hN, hI1, hI2, hI3, hI4, hN1, hw1, hgo, hx, hw2, hc, h0]
      have hadd : addR out e[i] hi = out.set (out.length - 1) ⟨lo', hi⟩ := by unfold addR; rw [hlast]; rw [if_pos ⟨h0, hm⟩]
      have hm2 : (out.set (out.length - 1) ⟨lo', hi⟩).map encR = (out.map encR).set (out.length - 1) (encR ⟨lo', hi⟩) := List.map_set
      refine fin hadd ?_ ⟨id, ?_, ?_, by simp; omega⟩
      · intro j hj; rcases hj with rfl | rfl | rfl | rfl | rfl <;> simp [Z43]
      · simp [Z43, e7]
      · rw [hm2]; simp [Z4e, encR, encI]
    · have hc : (hi' + 1 == e[i]) = false := by simp [hm]
      simp [Z0h, Z0c, Z0d, Z09, Z0a, Z0i, Z0b, Z0f, Z0g, Z2z, Z2y, Z07, Z08, Z06, Z01, Z02, Z00, Z04, Z05, Z03, Z1z, Z1y, Z46, Z48, Z47, Z45, Z1n, Z1o, Z1m, Z3n, Z3k, Z3m, Z3l, Z3o, Z1l, Z29, Z32, Z3x, Z1i, Z1j, Z1k, Z3v, Z3w, Z1g, Z28, Z1h, Z3i, Z3f, Z3h, Z3g, Z3j, Z41, Z40, Z0t, Z0u, Z0v, Z0s, Z1f, Z4c, Z4b, Z4d, Z4a, Z49, ex, Z43, Z42, ev_t, ev_c, Z27, Z26, Z4e, Z4f, Z2m, Z2l, Z2f, Z2j, Z2k, Z2g, Z2h, Z2i, putc, exBslice, lfill, exField, exIdxV, exIdxP, exBox, exAlloc, exLoad, exStore, exFieldA, exIdxA, exLen, exPick, exUn, exBeq, exMM, exSeq, seqGo, exExt, binV, intOp, subc, AV.solid, S0, encI, encB, c_md_add, e7, e8, e9, e12, gi, encIs, encR, hiI, hil, hge, hN, hI1, hI2, hI3, hI4, hN1, hw1, hgo, hx, hw2, hc, h0, exBuild, afill]
      have hadd : addR out e[i] hi = out ++ [⟨e[i], hi⟩] := by unfold addR; rw [hlast]; rw [if_neg (fun h => hm h.2)]
      rw [Vec.app (es := 2) (xs := out.map encR) (.mk' gi (by simp)) (cells_R out) (by simp [AV.cells]) (by unfold appOk; simp; omega)]
      simp [Z0h, Z0c, Z0d, Z09, Z0a, Z0i, Z0b, Z0f, Z0g, Z2z, Z2y, Z07, Z08, Z06, Z01, Z02, Z00, Z04, Z05, Z03, Z1z, Z1y, Z46, Z48, Z47, Z45, Z1n, Z1o, Z1m, Z3n, Z3k, Z3m, Z3l, Z3o, Z1l, Z29, Z32, Z3x, Z1i, Z1j, Z1k, Z3v, Z3w, Z1g, Z28, Z1h, Z3i, Z3f, Z3h, Z3g, Z3j, Z41, Z40, Z0t, Z0u, Z0v, Z0s, Z1f, Z4c, Z4b, Z4d, Z4a, Z49, ex, Z43, Z42, ev_t, ev_c, Z27, Z26, Z4e, Z4f, Z2m, Z2l, Z2f, Z2j, Z2k, Z2g, Z2h, Z2i, putc, exBslice, lfill, exField, exIdxV, exIdxP, exBox, exAlloc, exLoad, exStore, exFieldA, exIdxA, exLen, exPick, exUn, exBeq, exMM, exSeq, seqGo, exExt, binV, intOp, subc, AV.solid, S0, encI, encB]
      refine fin hadd ?_ ⟨S.n + 27, ?_, ?_, by simp⟩
      · intro j hj; rcases hj with rfl | rfl | rfl | rfl | rfl <;> simp [Z43]
      · simp [Z43]
      · simp [Z4e, encR, encI]
theorem MSt.same {a b : List Rg} {kind : Int} {e : List Int} {i : Nat} {out : List Rg} {f f' : AF} {S S' : St} (h : MSt a b kind e i out f S) (hf : ∀ j, j = 0 ∨ j = 1 ∨ j = 2 ∨ j = 7 ∨ j = 8 ∨ j = 9 → f' j = f j) (hg : S'.g = S.g) : MSt a b kind e i out f' S' :=
  ⟨by rw [hf 0 (by simp), h.e0], by rw [hf 1 (by simp), h.e1], by rw [hf 2 (by simp), h.e2], by rw [hf 8 (by simp), h.e8], by rw [hf 9 (by simp), h.e9], by rw [hf 7 (by simp), hg]; exact h.v⟩
theorem md_end {P : Program} {a b : List Rg} {kind : Int} {e : List Int} {i : Nat} {out : List Rg} (hil : i < e.length) (hel : e.length ≤ 100000) (hol : out.length ≤ 100000) (hbe : ∀ x ∈ e, 0 ≤ x ∧ x ≤ 1114111) (hb : ∀ r ∈ out, -1 ≤ r.high ∧ r.high ≤ 1114111) {f : AF} {S : St} {Q : Exit → AF → St → Prop}
    (st : MSt a b kind e i out f S) (hq : ∀ f' S', MSt a b kind e i (addR out e[i] (toE e i)) f' S' → Q .normal f' S') : AW P c_md_end Q f S := by
  obtain ⟨e0, e1, e2, e8, e9, v⟩ := id st
  have hw1 : IntKind.i64.wrap ((i : Int) + 1) = (i : Int) + 1 := wrap_in _ (by omega)
  by_cases hlt : i + 1 < e.length
  · have hI : (i : Int) + 1 < e.length := by omega
    have hI0 : (0 : Int) ≤ (i : Int) + 1 := by omega
    have hN : ((i : Int) + 1).toNat = i + 1 := by omega
    have hg : e[i + 1]? = some e[i + 1] := List.getElem?_eq_getElem hlt
    have hbx := hbe e[i + 1] (List.getElem_mem hlt)
    have hw2 : IntKind.i64.wrap (e[i + 1] - 1) = e[i + 1] - 1 := wrap_in _ (by omega)
    have ht : toE e i = e[i + 1] - 1 := by unfold toE; rw [if_pos hlt]; simp [List.getD_eq_getElem?_getD, hg]
    simp [Z0h, Z0c, Z0d, Z09, Z0a, Z0i, Z0b, Z0f, Z0g, Z2z, Z2y, Z07, Z08, Z06, Z01, Z02, Z00, Z04, Z05, Z03, Z1z, Z1y, Z46, Z48, Z47, Z45, Z1n, Z1o, Z1m, Z3n, Z3k, Z3m, Z3l, Z3o, Z1l, Z29, Z32, Z3x, Z1i, Z1j, Z1k, Z3v, Z3w, Z1g, Z28, Z1h, Z3i, Z3f, Z3h, Z3g, Z3j, Z41, Z40, Z0t, Z0u, Z0v, Z0s, Z1f, Z4c, Z4b, Z4d, Z4a, Z49, ex, Z43, Z42, ev_t, ev_c, Z27, Z26, Z4e, Z4f, Z2m, Z2l, Z2f, Z2j, Z2k, Z2g, Z2h, Z2i, putc, exBslice, lfill, exField, exIdxV, exIdxP, exBox, exAlloc, exLoad, exStore, exFieldA, exIdxA, exLen, exPick, exUn, exBeq, exMM, exSeq, seqGo, exExt, binV, intOp, subc, AV.solid, S0, encI, encB, c_md_end, e8, e9, encIs, hw1, hI, hI0, hN, hg, hlt, hw2]
    refine md_add (out := out) hil hel hol hb (st.same ?_ rfl) (hi := e[i + 1] - 1) ?_ ?_
    · intro j hj; rcases hj with rfl | rfl | rfl | rfl | rfl | rfl <;> simp [Z43]
    · simp [Z43, encI]
    · rw [← ht]; exact hq
  · have hI : ¬ (i : Int) + 1 < e.length := by omega
    have ht : toE e i = 1114111 := by unfold toE; rw [if_neg hlt]
    simp [Z0h, Z0c, Z0d, Z09, Z0a, Z0i, Z0b, Z0f, Z0g, Z2z, Z2y, Z07, Z08, Z06, Z01, Z02, Z00, Z04, Z05, Z03, Z1z, Z1y, Z46, Z48, Z47, Z45, Z1n, Z1o, Z1m, Z3n, Z3k, Z3m, Z3l, Z3o, Z1l, Z29, Z32, Z3x, Z1i, Z1j, Z1k, Z3v, Z3w, Z1g, Z28, Z1h, Z3i, Z3f, Z3h, Z3g, Z3j, Z41, Z40, Z0t, Z0u, Z0v, Z0s, Z1f, Z4c, Z4b, Z4d, Z4a, Z49, ex, Z43, Z42, ev_t, ev_c, Z27, Z26, Z4e, Z4f, Z2m, Z2l, Z2f, Z2j, Z2k, Z2g, Z2h, Z2i, putc, exBslice, lfill, exField, exIdxV, exIdxP, exBox, exAlloc, exLoad, exStore, exFieldA, exIdxA, exLen, exPick, exUn, exBeq, exMM, exSeq, seqGo, exExt, binV, intOp, subc, AV.solid, S0, encI, encB, c_md_end, e8, e9, encIs, hw1, hI, hlt]
    refine md_add (out := out) hil hel hol hb (st.same ?_ rfl) (hi := 1114111) ?_ ?_
    · intro j hj; rcases hj with rfl | rfl | rfl | rfl | rfl | rfl <;> simp [Z43]
    · simp [Z43, encI]
    · rw [← ht]; exact hq
theorem md_c {P : Program} {a b : List Rg} {kind : Int} (hk : kind = 0 ∨ kind = 1 ∨ kind = 2) {e : List Int} {i : Nat} {out : List Rg} {x y : Bool} {f : AF} {S : St} {Q : Exit → AF → St → Prop}
    (st : MSt a b kind e i out f S) (e10 : f 10 = encB x) (e11 : f 11 = encB y) (hq : ∀ f' S', MSt a b kind e i out f' S' → if condK kind x y = true then Q (.exit 1) f' S' else Q .normal f' S') : AW P c_md_c Q f S := by
  obtain ⟨e0, e1, e2, e8, e9, v⟩ := id st
  have fin : ∀ {f' : AF} {S' : St}, (∀ j, j = 0 ∨ j = 1 ∨ j = 2 ∨ j = 7 ∨ j = 8 ∨ j = 9 → f' j = f j) → S'.g = S.g → if condK kind x y = true then Q (.exit 1) f' S' else Q .normal f' S' := fun hf hg => hq _ _ (st.same hf hg)
  rcases hk with rfl | rfl | rfl <;> cases x <;> cases y <;>
  · simp [Z0h, Z0c, Z0d, Z09, Z0a, Z0i, Z0b, Z0f, Z0g, Z2z, Z2y, Z07, Z08, Z06, Z01, Z02, Z00, Z04, Z05, Z03, Z1z, Z1y, Z46, Z48, Z47, Z45, Z1n, Z1o, Z1m, Z3n, Z3k, Z3m, Z3l, Z3o, Z1l, Z29, Z32, Z3x, Z1i, Z1j, Z1k, Z3v, Z3w, Z1g, Z28, Z1h, Z3i, Z3f, Z3h, Z3g, Z3j, Z41, Z40, Z0t, Z0u, Z0v, Z0s, Z1f, Z4c, Z4b, Z4d, Z4a, Z49, ex, Z43, Z42, ev_t, ev_c, Z27, Z26, Z4e, Z4f, Z2m, Z2l, Z2f, Z2j, Z2k, Z2g, Z2h, Z2i, putc, exBslice, lfill, exField, exIdxV, exIdxP, exBox, exAlloc, exLoad, exStore, exFieldA, exIdxA, exLen, exPick, exUn, exBeq, exMM, exSeq, seqGo, exExt, binV, intOp, subc, AV.solid, S0, encI, encB, c_md_c, e2, e10, e11]
    refine fin ?_ rfl
    intro j hj; rcases hj with rfl | rfl | rfl | rfl | rfl | rfl <;> simp [Z43]
theorem md_one {P : Program} {fh : FuncId} {a b : List Rg} {kind : Int} (hk : kind = 0 ∨ kind = 1 ∨ kind = 2) {e : List Int} {i : Nat} {out : List Rg} (hh : ∀ l c, PureC P fh [encRs l, encI c] (encB (hasR l c))) (hil : i < e.length) (hel : e.length ≤ 100000) (hol : out.length ≤ 100000) (hbe : ∀ x ∈ e, 0 ≤ x ∧ x ≤ 1114111) (hb : ∀ r ∈ out, -1 ≤ r.high ∧ r.high ≤ 1114111) {f : AF} {S : St} {Q : Exit → AF → St → Prop}
    (st : MSt a b kind e i out f S) (hq : ∀ f' S', MSt a b kind e i (made1 a b kind e out i) f' S' → Q .normal f' S') : AW P (c_md_one fh) Q f S := by
  obtain ⟨e0, e1, e2, e8, e9, v⟩ := id st
  have hiI : (i : Int) < e.length := by omega
  have hge : e[i]? = some e[i] := List.getElem?_eq_getElem hil
  have hgd : e.getD i 0 = e[i] := by simp [List.getD_eq_getElem?_getD, hge]
  have d1 : ∀ n g, CallD P fh [encRs a, .v (.int .i64 e[i])] ⟨n, g⟩ [] (encB (hasR a e[i])) := fun n g => CallD.kl (hh a e[i]) (cl_cons (closed_Rs _) (cl_cons (Z2r _) cl_nil)) (Z2o _)
  have d2 : ∀ n g, CallD P fh [encRs b, .v (.int .i64 e[i])] ⟨n, g⟩ [] (encB (hasR b e[i])) := fun n g => CallD.kl (hh b e[i]) (cl_cons (closed_Rs _) (cl_cons (Z2r _) cl_nil)) (Z2o _)
  simp [Z0h, Z0c, Z0d, Z09, Z0a, Z0i, Z0b, Z0f, Z0g, Z2z, Z2y, Z07, Z08, Z06, Z01, Z02, Z00, Z04, Z05, Z03, Z1z, Z1y, Z46, Z48, Z47, Z45, Z1n, Z1o, Z1m, Z3n, Z3k, Z3m, Z3l, Z3o, Z1l, Z29, Z32, Z3x, Z1i, Z1j, Z1k, Z3v, Z3w, Z1g, Z28, Z1h, Z3i, Z3f, Z3h, Z3g, Z3j, Z41, Z40, Z0t, Z0u, Z0v, Z0s, Z1f, Z4c, Z4b, Z4d, Z4a, Z49, ex, Z43, Z42, ev_t, ev_c, Z27, Z26, Z4e, Z4f, Z2m, Z2l, Z2f, Z2j, Z2k, Z2g, Z2h, Z2i, putc, exBslice, lfill, exField, exIdxV, exIdxP, exBox, exAlloc, exLoad, exStore, exFieldA, exIdxA, exLen, exPick, exUn, exBeq, exMM, exSeq, seqGo, exExt, binV, intOp, subc, AV.solid, S0, encI, encB, c_md_one, e0, e1, e8, e9, encIs, hiI, hil, hge]
  refine ⟨_, ⟨_, d1 _ _⟩, _, ⟨_, d2 _ _⟩, ?_⟩
  simp [Z0h, Z0c, Z0d, Z09, Z0a, Z0i, Z0b, Z0f, Z0g, Z2z, Z2y, Z07, Z08, Z06, Z01, Z02, Z00, Z04, Z05, Z03, Z1z, Z1y, Z46, Z48, Z47, Z45, Z1n, Z1o, Z1m, Z3n, Z3k, Z3m, Z3l, Z3o, Z1l, Z29, Z32, Z3x, Z1i, Z1j, Z1k, Z3v, Z3w, Z1g, Z28, Z1h, Z3i, Z3f, Z3h, Z3g, Z3j, Z41, Z40, Z0t, Z0u, Z0v, Z0s, Z1f, Z4c, Z4b, Z4d, Z4a, Z49, ex, Z43, Z42, ev_t, ev_c, Z27, Z26, Z4e, Z4f, Z2m, Z2l, Z2f, Z2j, Z2k, Z2g, Z2h, Z2i, putc, exBslice, lfill, exField, exIdxV, exIdxP, exBox, exAlloc, exLoad, exStore, exFieldA, exIdxA, exLen, exPick, exUn, exBeq, exMM, exSeq, seqGo, exExt, binV, intOp, subc, AV.solid, S0, encI, encB]
  refine md_c hk (st.same ?_ rfl) (x := hasR a e[i]) (y := hasR b e[i]) ?_ ?_ ?_
  · intro j hj; rcases hj with rfl | rfl | rfl | rfl | rfl | rfl <;> simp [Z43]
  · simp [Z43, encB]
  · simp [Z43, encB]
  · intro f1 S1 st1
    by_cases hc : condK kind (hasR a e[i]) (hasR b e[i]) = true
    · rw [if_pos hc]
      have hm : made1 a b kind e out i = out := by unfold made1; rw [hgd, if_pos hc]
      simp [Z0h, Z0c, Z0d, Z09, Z0a, Z0i, Z0b, Z0f, Z0g, Z2z, Z2y, Z07, Z08, Z06, Z01, Z02, Z00, Z04, Z05, Z03, Z1z, Z1y, Z46, Z48, Z47, Z45, Z1n, Z1o, Z1m, Z3n, Z3k, Z3m, Z3l, Z3o, Z1l, Z29, Z32, Z3x, Z1i, Z1j, Z1k, Z3v, Z3w, Z1g, Z28, Z1h, Z3i, Z3f, Z3h, Z3g, Z3j, Z41, Z40, Z0t, Z0u, Z0v, Z0s, Z1f, Z4c, Z4b, Z4d, Z4a, Z49, ex, Z43, Z42, ev_t, ev_c, Z27, Z26, Z4e, Z4f, Z2m, Z2l, Z2f, Z2j, Z2k, Z2g, Z2h, Z2i, putc, exBslice, lfill, exField, exIdxV, exIdxP, exBox, exAlloc, exLoad, exStore, exFieldA, exIdxA, exLen, exPick, exUn, exBeq, exMM, exSeq, seqGo, exExt, binV, intOp, subc, AV.solid, S0, encI, encB]
      exact hq _ _ (by rw [hm]; exact st1)
    · rw [if_neg hc]
      have hm : made1 a b kind e out i = addR out e[i] (toE e i) := by unfold made1; rw [hgd, if_neg hc]
      simp [Z0h, Z0c, Z0d, Z09, Z0a, Z0i, Z0b, Z0f, Z0g, Z2z, Z2y, Z07, Z08, Z06, Z01, Z02, Z00, Z04, Z05, Z03, Z1z, Z1y, Z46, Z48, Z47, Z45, Z1n, Z1o, Z1m, Z3n, Z3k, Z3m, Z3l, Z3o, Z1l, Z29, Z32, Z3x, Z1i, Z1j, Z1k, Z3v, Z3w, Z1g, Z28, Z1h, Z3i, Z3f, Z3h, Z3g, Z3j, Z41, Z40, Z0t, Z0u, Z0v, Z0s, Z1f, Z4c, Z4b, Z4d, Z4a, Z49, ex, Z43, Z42, ev_t, ev_c, Z27, Z26, Z4e, Z4f, Z2m, Z2l, Z2f, Z2j, Z2k, Z2g, Z2h, Z2i, putc, exBslice, lfill, exField, exIdxV, exIdxP, exBox, exAlloc, exLoad, exStore, exFieldA, exIdxA, exLen, exPick, exUn, exBeq, exMM, exSeq, seqGo, exExt, binV, intOp, subc, AV.solid, S0, encI, encB]
      refine md_end hil hel hol hbe hb st1 ?_
      intro f2 S2 st2
      simp [Z0h, Z0c, Z0d, Z09, Z0a, Z0i, Z0b, Z0f, Z0g, Z2z, Z2y, Z07, Z08, Z06, Z01, Z02, Z00, Z04, Z05, Z03, Z1z, Z1y, Z46, Z48, Z47, Z45, Z1n, Z1o, Z1m, Z3n, Z3k, Z3m, Z3l, Z3o, Z1l, Z29, Z32, Z3x, Z1i, Z1j, Z1k, Z3v, Z3w, Z1g, Z28, Z1h, Z3i, Z3f, Z3h, Z3g, Z3j, Z41, Z40, Z0t, Z0u, Z0v, Z0s, Z1f, Z4c, Z4b, Z4d, Z4a, Z49, ex, Z43, Z42, ev_t, ev_c, Z27, Z26, Z4e, Z4f, Z2m, Z2l, Z2f, Z2j, Z2k, Z2g, Z2h, Z2i, putc, exBslice, lfill, exField, exIdxV, exIdxP, exBox, exAlloc, exLoad, exStore, exFieldA, exIdxA, exLen, exPick, exUn, exBeq, exMM, exSeq, seqGo, exExt, binV, intOp, subc, AV.solid, S0, encI, encB]
      exact hq _ _ (by rw [hm]; exact st2)
theorem addR_len (out : List Rg) (lo hi : Int) : (addR out lo hi).length ≤ out.length + 1 := by unfold addR; split <;> simp
theorem made1_len (a b : List Rg) (kind : Int) (e : List Int) (out : List Rg) (i : Nat) : (made1 a b kind e out i).length ≤ out.length + 1 := by
  unfold made1; split
  · omega
  · exact addR_len _ _ _
theorem addR_high {out : List Rg} {lo hi : Int} (h : -1 ≤ hi ∧ hi ≤ 1114111) (hb : ∀ r ∈ out, -1 ≤ r.high ∧ r.high ≤ 1114111) : ∀ r ∈ addR out lo hi, -1 ≤ r.high ∧ r.high ≤ 1114111 := by
  intro r hr
  unfold addR at hr
  split at hr
  · rcases List.mem_or_eq_of_mem_set hr with h1 | h1
    · exact hb r h1
    · rw [h1]; exact h
  · rcases List.mem_append.mp hr with h1 | h1
    · exact hb r h1
    · simp at h1; rw [h1]; exact h
theorem toE_b {e : List Int} (hbe : ∀ x ∈ e, 0 ≤ x ∧ x ≤ 1114111) (i : Nat) : -1 ≤ toE e i ∧ toE e i ≤ 1114111 := by
  unfold toE
  split
  · rename_i h
    have := hbe e[i + 1] (List.getElem_mem h)
    simp only [List.getD_eq_getElem?_getD, List.getElem?_eq_getElem h, Option.getD_some]
    omega
  · omega
theorem made1_high {a b : List Rg} {kind : Int} {e : List Int} (hbe : ∀ x ∈ e, 0 ≤ x ∧ x ≤ 1114111) {out : List Rg} {i : Nat} (hb : ∀ r ∈ out, -1 ≤ r.high ∧ r.high ≤ 1114111) : ∀ r ∈ made1 a b kind e out i, -1 ≤ r.high ∧ r.high ≤ 1114111 := by
  unfold made1; split
  · exact hb
  · exact addR_high (toE_b hbe i) hb
def madeAt (a b : List Rg) (kind : Int) (e : List Int) (i : Nat) : List Rg := (List.range i).foldl (made1 a b kind e) []
theorem madeAt_succ (a b : List Rg) (kind : Int) (e : List Int) (i : Nat) : madeAt a b kind e (i + 1) = made1 a b kind e (madeAt a b kind e i) i := by
  unfold madeAt; rw [List.range_succ, List.foldl_append]; rfl
theorem madeAt_len (a b : List Rg) (kind : Int) (e : List Int) : ∀ i, (madeAt a b kind e i).length ≤ i
  | 0 => by simp [madeAt]
  | i + 1 => by
    rw [madeAt_succ]
    have h1 := made1_len a b kind e (madeAt a b kind e i) i
    have h2 := madeAt_len a b kind e i
    omega
theorem madeAt_high {a b : List Rg} {kind : Int} {e : List Int} (hbe : ∀ x ∈ e, 0 ≤ x ∧ x ≤ 1114111) : ∀ i, ∀ r ∈ madeAt a b kind e i, -1 ≤ r.high ∧ r.high ≤ 1114111
  | 0 => by simp [madeAt]
  | i + 1 => by rw [madeAt_succ]; exact made1_high hbe (madeAt_high hbe i)
def mdI (a b : List Rg) (kind : Int) (e : List Int) (m : Nat) (f : AF) (S : St) : Prop := ∃ i, i ≤ e.length ∧ m = e.length - i ∧ MSt a b kind e i (madeAt a b kind e i) f S
theorem md_loop {P : Program} {fh : FuncId} {a b : List Rg} {kind : Int} (hk : kind = 0 ∨ kind = 1 ∨ kind = 2) {e : List Int} (hh : ∀ l c, PureC P fh [encRs l, encI c] (encB (hasR l c))) (hel : e.length ≤ 100000) (hbe : ∀ x ∈ e, 0 ≤ x ∧ x ≤ 1114111) {f : AF} {S : St} {Q : Exit → AF → St → Prop}
    (h0 : mdI a b kind e e.length f S) (hq : ∀ f' S', MSt a b kind e e.length (madeAt a b kind e e.length) f' S' → Q .normal f' S') : AW P (c_md_loop fh) Q f S := by
  simp [Z0h, Z0c, Z0d, Z09, Z0a, Z0i, Z0b, Z0f, Z0g, Z2z, Z2y, Z07, Z08, Z06, Z01, Z02, Z00, Z04, Z05, Z03, Z1z, Z1y, Z46, Z48, Z47, Z45, Z1n, Z1o, Z1m, Z3n, Z3k, Z3m, Z3l, Z3o, Z1l, Z29, Z32, Z3x, Z1i, Z1j, Z1k, Z3v, Z3w, Z1g, Z28, Z1h, Z3i, Z3f, Z3h, Z3g, Z3j, Z41, Z40, Z0t, Z0u, Z0v, Z0s, Z1f, Z4c, Z4b, Z4d, Z4a, Z49, ex, Z43, Z42, ev_t, ev_c, Z27, Z26, Z4e, Z4f, Z2m, Z2l, Z2f, Z2j, Z2k, Z2g, Z2h, Z2i, putc, exBslice, lfill, exField, exIdxV, exIdxP, exBox, exAlloc, exLoad, exStore, exFieldA, exIdxA, exLen, exPick, exUn, exBeq, exMM, exSeq, seqGo, exExt, binV, intOp, subc, AV.solid, S0, encI, encB, c_md_loop]
  refine AW_loop (mdI a b kind e) e.length h0 ?_
  rintro m f S ⟨i, hi, rfl, st⟩
  obtain ⟨e0, e1, e2, e8, e9, v⟩ := id st
  by_cases hlt : i < e.length
  · have hI : (i : Int) < e.length := by omega
    have hml := madeAt_len a b kind e i
    simp [Z0h, Z0c, Z0d, Z09, Z0a, Z0i, Z0b, Z0f, Z0g, Z2z, Z2y, Z07, Z08, Z06, Z01, Z02, Z00, Z04, Z05, Z03, Z1z, Z1y, Z46, Z48, Z47, Z45, Z1n, Z1o, Z1m, Z3n, Z3k, Z3m, Z3l, Z3o, Z1l, Z29, Z32, Z3x, Z1i, Z1j, Z1k, Z3v, Z3w, Z1g, Z28, Z1h, Z3i, Z3f, Z3h, Z3g, Z3j, Z41, Z40, Z0t, Z0u, Z0v, Z0s, Z1f, Z4c, Z4b, Z4d, Z4a, Z49, ex, Z43, Z42, ev_t, ev_c, Z27, Z26, Z4e, Z4f, Z2m, Z2l, Z2f, Z2j, Z2k, Z2g, Z2h, Z2i, putc, exBslice, lfill, exField, exIdxV, exIdxP, exBox, exAlloc, exLoad, exStore, exFieldA, exIdxA, exLen, exPick, exUn, exBeq, exMM, exSeq, seqGo, exExt, binV, intOp, subc, AV.solid, S0, encI, encB, e8, e9, encIs, hI, hlt]
    refine md_one hk hh hlt hel (by omega) hbe (madeAt_high hbe i) (st.same ?_ rfl) ?_
    · intro j hj; rcases hj with rfl | rfl | rfl | rfl | rfl | rfl <;> simp [Z43]
    · rintro f1 S1 ⟨q0, q1, q2, q8, q9, qv⟩
      simp [Z0h, Z0c, Z0d, Z09, Z0a, Z0i, Z0b, Z0f, Z0g, Z2z, Z2y, Z07, Z08, Z06, Z01, Z02, Z00, Z04, Z05, Z03, Z1z, Z1y, Z46, Z48, Z47, Z45, Z1n, Z1o, Z1m, Z3n, Z3k, Z3m, Z3l, Z3o, Z1l, Z29, Z32, Z3x, Z1i, Z1j, Z1k, Z3v, Z3w, Z1g, Z28, Z1h, Z3i, Z3f, Z3h, Z3g, Z3j, Z41, Z40, Z0t, Z0u, Z0v, Z0s, Z1f, Z4c, Z4b, Z4d, Z4a, Z49, ex, Z43, Z42, ev_t, ev_c, Z27, Z26, Z4e, Z4f, Z2m, Z2l, Z2f, Z2j, Z2k, Z2g, Z2h, Z2i, putc, exBslice, lfill, exField, exIdxV, exIdxP, exBox, exAlloc, exLoad, exStore, exFieldA, exIdxA, exLen, exPick, exUn, exBeq, exMM, exSeq, seqGo, exExt, binV, intOp, subc, AV.solid, S0, encI, encB, q9]
      rw [wrap_in _ (by omega)]
      refine ⟨e.length - (i + 1), by omega, i + 1, by omega, rfl, ?_⟩
      rw [madeAt_succ]
      refine ⟨?_, ?_, ?_, ?_, ?_, ?_⟩
      · simp [Z43, q0]
      · simp [Z43, q1]
      · simp [Z43, q2]
      · simp [Z43, q8]
      · simp [Z43, encI]
      · simpa [Z43] using qv
  · have hI : ¬ (i : Int) < e.length := by omega
    have hil : i = e.length := by omega
    simp [Z0h, Z0c, Z0d, Z09, Z0a, Z0i, Z0b, Z0f, Z0g, Z2z, Z2y, Z07, Z08, Z06, Z01, Z02, Z00, Z04, Z05, Z03, Z1z, Z1y, Z46, Z48, Z47, Z45, Z1n, Z1o, Z1m, Z3n, Z3k, Z3m, Z3l, Z3o, Z1l, Z29, Z32, Z3x, Z1i, Z1j, Z1k, Z3v, Z3w, Z1g, Z28, Z1h, Z3i, Z3f, Z3h, Z3g, Z3j, Z41, Z40, Z0t, Z0u, Z0v, Z0s, Z1f, Z4c, Z4b, Z4d, Z4a, Z49, ex, Z43, Z42, ev_t, ev_c, Z27, Z26, Z4e, Z4f, Z2m, Z2l, Z2f, Z2j, Z2k, Z2g, Z2h, Z2i, putc, exBslice, lfill, exField, exIdxV, exIdxP, exBox, exAlloc, exLoad, exStore, exFieldA, exIdxA, exLen, exPick, exUn, exBeq, exMM, exSeq, seqGo, exExt, binV, intOp, subc, AV.solid, S0, encI, encB, e8, e9, encIs, hI, hlt]
    rw [hil] at st
    refine hq _ _ (st.same ?_ rfl)
    intro j hj; rcases hj with rfl | rfl | rfl | rfl | rfl | rfl <;> simp [Z43]
theorem mem_putF {n x : Int} : ∀ {l : List Int}, x ∈ putF l n ↔ x = n ∨ x ∈ l
  | [] => by simp [putF]
  | y :: l => by
    simp only [putF]
    split
    · rw [List.mem_cons, mem_putF, List.mem_cons]
      constructor
      · rintro (h | h | h) <;> simp [h]
      · rintro (h | h | h) <;> simp [h]
    · split
      · rename_i h; subst h
        constructor
        · intro h; exact .inr h
        · rintro (h | h)
          · rw [h]; exact List.mem_cons_self ..
          · exact h
      · rw [List.mem_cons]
theorem edge1_b {o : List Int} {r : Rg} (h : ∀ x ∈ o, 0 ≤ x ∧ x ≤ 1114111) : ∀ x ∈ edge1 o r, 0 ≤ x ∧ x ≤ 1114111 := by
  intro x hx
  unfold edge1 at hx
  split at hx
  · rcases mem_putF.mp hx with h1 | h1
    · rw [h1]; assumption
    · exact h x h1
  · exact h x hx
theorem edge2_b {o : List Int} {r : Rg} (h : ∀ x ∈ o, 0 ≤ x ∧ x ≤ 1114111) : ∀ x ∈ edge2 o r, 0 ≤ x ∧ x ≤ 1114111 := by
  intro x hx
  unfold edge2 at hx
  split at hx
  · rcases mem_putF.mp hx with h1 | h1
    · omega
    · exact h x h1
  · exact h x hx
theorem edgeF_b : ∀ (l : List Rg) {o : List Int}, (∀ x ∈ o, 0 ≤ x ∧ x ≤ 1114111) → ∀ x ∈ l.foldl (fun o r => edge2 (edge1 o r) r) o, 0 ≤ x ∧ x ≤ 1114111
  | [], o, h => h
  | r :: l, o, h => by rw [List.foldl_cons]; exact edgeF_b l (edge2_b (edge1_b h))
theorem edgeS_b {o : List Int} {l : List Rg} (h : ∀ x ∈ o, 0 ≤ x ∧ x ≤ 1114111) : ∀ x ∈ edgeS o l, 0 ≤ x ∧ x ≤ 1114111 := by
  unfold edgeS; split
  · exact edgeF_b l h
  · exact h
theorem edgesF_b (sets : List (List Rg)) : ∀ x ∈ edgesF sets, 0 ≤ x ∧ x ≤ 1114111 := by
  have : ∀ (l : List (List Rg)) {o : List Int}, (∀ x ∈ o, 0 ≤ x ∧ x ≤ 1114111) → ∀ x ∈ l.foldl edgeS o, 0 ≤ x ∧ x ≤ 1114111 := by
    intro l
    induction l with
    | nil => intro o h; exact h
    | cons a l ih => intro o h; rw [List.foldl_cons]; exact ih (edgeS_b h)
  exact this sets (by simp)
theorem caesuraref01_made_body {P : Program} {fe fh : FuncId} (a b : List Rg) (kind : Int) (hk : kind = 0 ∨ kind = 1 ∨ kind = 2) (hh : ∀ l c, PureC P fh [encRs l, encI c] (encB (hasR l c))) (he : PureC P fe [.sl true ([a, b].map encRs)] (encIs (edgesF [a, b]))) :
    AW P (c_caesuraref01_made fe fh) (RetK [6] (FzK (encRs (madeF a b kind)))) (argF [encRs a, encRs b, encI kind]) S0 := by
  have hlen := edgesS_len [a, b] [0]
  simp only [List.length_cons, List.length_nil] at hlen
  have hel : (edgesF [a, b]).length ≤ 100000 := by unfold edgesF; omega
  have ccl : Closed (.sl true ([a, b].map encRs)) := closed_map closed_Rs _
  simp [Z0h, Z0c, Z0d, Z09, Z0a, Z0i, Z0b, Z0f, Z0g, Z2z, Z2y, Z07, Z08, Z06, Z01, Z02, Z00, Z04, Z05, Z03, Z1z, Z1y, Z46, Z48, Z47, Z45, Z1n, Z1o, Z1m, Z3n, Z3k, Z3m, Z3l, Z3o, Z1l, Z29, Z32, Z3x, Z1i, Z1j, Z1k, Z3v, Z3w, Z1g, Z28, Z1h, Z3i, Z3f, Z3h, Z3g, Z3j, Z41, Z40, Z0t, Z0u, Z0v, Z0s, Z1f, Z4c, Z4b, Z4d, Z4a, Z49, ex, Z43, Z42, ev_t, ev_c, Z27, Z26, Z4e, Z4f, Z2m, Z2l, Z2f, Z2j, Z2k, Z2g, Z2h, Z2i, putc, exBslice, lfill, exField, exIdxV, exIdxP, exBox, exAlloc, exLoad, exStore, exFieldA, exIdxA, exLen, exPick, exUn, exBeq, exMM, exSeq, seqGo, exExt, binV, intOp, subc, AV.solid, S0, encI, encB, c_caesuraref01_made]
  refine CallR.pure he (cl_cons ccl cl_nil) (Z2s _) ?_
  simp [Z0h, Z0c, Z0d, Z09, Z0a, Z0i, Z0b, Z0f, Z0g, Z2z, Z2y, Z07, Z08, Z06, Z01, Z02, Z00, Z04, Z05, Z03, Z1z, Z1y, Z46, Z48, Z47, Z45, Z1n, Z1o, Z1m, Z3n, Z3k, Z3m, Z3l, Z3o, Z1l, Z29, Z32, Z3x, Z1i, Z1j, Z1k, Z3v, Z3w, Z1g, Z28, Z1h, Z3i, Z3f, Z3h, Z3g, Z3j, Z41, Z40, Z0t, Z0u, Z0v, Z0s, Z1f, Z4c, Z4b, Z4d, Z4a, Z49, ex, Z43, Z42, ev_t, ev_c, Z27, Z26, Z4e, Z4f, Z2m, Z2l, Z2f, Z2j, Z2k, Z2g, Z2h, Z2i, putc, exBslice, lfill, exField, exIdxV, exIdxP, exBox, exAlloc, exLoad, exStore, exFieldA, exIdxA, exLen, exPick, exUn, exBeq, exMM, exSeq, seqGo, exExt, binV, intOp, subc, AV.solid, S0, encI, encB]
  refine md_loop (a := a) (b := b) (kind := kind) hk hh hel (edgesF_b _) ?_ ?_
  · refine ⟨0, by omega, rfl, ⟨?_, ?_, ?_, ?_, ?_, .inl ⟨?_, rfl⟩⟩⟩ <;> simp [Z43, Z27, Z26, encI]
  · intro f S st
    simp [Z0h, Z0c, Z0d, Z09, Z0a, Z0i, Z0b, Z0f, Z0g, Z2z, Z2y, Z07, Z08, Z06, Z01, Z02, Z00, Z04, Z05, Z03, Z1z, Z1y, Z46, Z48, Z47, Z45, Z1n, Z1o, Z1m, Z3n, Z3k, Z3m, Z3l, Z3o, Z1l, Z29, Z32, Z3x, Z1i, Z1j, Z1k, Z3v, Z3w, Z1g, Z28, Z1h, Z3i, Z3f, Z3h, Z3g, Z3j, Z41, Z40, Z0t, Z0u, Z0v, Z0s, Z1f, Z4c, Z4b, Z4d, Z4a, Z49, ex, Z43, Z42, ev_t, ev_c, Z27, Z26, Z4e, Z4f, Z2m, Z2l, Z2f, Z2j, Z2k, Z2g, Z2h, Z2i, putc, exBslice, lfill, exField, exIdxV, exIdxP, exBox, exAlloc, exLoad, exStore, exFieldA, exIdxA, exLen, exPick, exUn, exBeq, exMM, exSeq, seqGo, exExt, binV, intOp, subc, AV.solid, S0, encI, encB]
    have hv := st.vec
    exact hv.fz closed_R
end Go.Rf


set_option linter.unusedVariables false
set_option linter.unusedSimpArgs false
namespace Go.Rf
def c_caesuraref01_And (f_caesuraref01_made : FuncId) : AC :=
  (.seq (.reg none [
   ⟨(some 4), .mv (.c (.sl true [])), none, none⟩])
  (.seq (.reg none [
   ⟨(some 5), .mv (.t 0), none, none⟩,
   ⟨(some 6), .mv (.t 1), none, none⟩,
   ⟨(some 7), .mv (.c .junk), none, (some ((.c (.clo f_caesuraref01_made [] [])), [(.t 5), (.t 6), (.c (.v (.int .i64 1)))]))⟩,
   ⟨(some 4), .mv (.t 7), none, none⟩])
  .ret))
def c_caesuraref01_Or (f_caesuraref01_made : FuncId) : AC :=
  (.seq (.reg none [
   ⟨(some 4), .mv (.c (.sl true [])), none, none⟩])
  (.seq (.reg none [
   ⟨(some 5), .mv (.t 0), none, none⟩,
   ⟨(some 6), .mv (.t 1), none, none⟩,
   ⟨(some 7), .mv (.c .junk), none, (some ((.c (.clo f_caesuraref01_made [] [])), [(.t 5), (.t 6), (.c (.v (.int .i64 0)))]))⟩,
   ⟨(some 4), .mv (.t 7), none, none⟩])
  .ret))
def c_caesuraref01_Plain (f_caesuraref01_Or : FuncId) : AC :=
  (.seq (.reg none [
   ⟨(some 2), .mv (.c (.sl true [])), none, none⟩])
  (.seq (.reg none [
   ⟨(some 3), .mv (.t 0), none, none⟩,
   ⟨(some 4), .mv (.c .junk), none, (some ((.c (.clo f_caesuraref01_Or [] [])), [(.t 3), (.c (.sl true []))]))⟩,
   ⟨(some 2), .mv (.t 4), none, none⟩])
  .ret))
def c_caesuraref01_First (f_caesuraref01_Plain : FuncId) : AC :=
  (.seq (.reg none [
   ⟨(some 2), .mv (.c (.v (.int .i64 0))), none, none⟩])
  (.seq (.reg none [
   ⟨(some 4), .mv (.t 0), none, none⟩,
   ⟨(some 5), .mv (.c .junk), none, (some ((.c (.clo f_caesuraref01_Plain [] [])), [(.t 4)]))⟩,
   ⟨(some 3), .mv (.t 5), none, none⟩])
  (.seq (.seq (.reg none [
   ⟨(some 6), .mv (.t 3), none, none⟩,
   ⟨(some 7), .len (.t 6), none, none⟩,
   ⟨(some 8), .bin .eql (.t 7) (.c (.v (.int .i64 0))), none, none⟩])
  (.cond (.t 8) (.seq (.reg none [
    ⟨(some 2), .mv (.c (.v (.int .i64 (-1)))), none, none⟩])
   .ret) .skip))
  (.seq (.reg none [
   ⟨(some 9), .mv (.t 3), none, none⟩,
   ⟨(some 10), .idxA 2 (.t 9) (.c (.v (.int .i64 0))), none, none⟩,
   ⟨(some 11), .fieldA 0 (.t 10), none, none⟩,
   ⟨(some 12), .load none (.t 11), none, none⟩,
   ⟨(some 2), .mv (.t 12), none, none⟩])
  .ret))))
def c_caesuraref01_Right (f_caesuraref01_Plain f_caesuraref01_Ranges : FuncId) : AC :=
  (.seq (.reg none [
   ⟨(some 2), .mv (.c (.v (.bool false))), none, none⟩])
  (.seq (.reg none [
   ⟨(some 3), .mv (.t 0), none, none⟩,
   ⟨(some 4), .len (.t 3), none, none⟩,
   ⟨(some 5), .bin .leq (.t 4) (.c (.v (.int .i64 400))), none, none⟩,
   ⟨(some 6), .mv (.t 5), none, none⟩,
   ⟨(some 7), .mv (.t 0), (some (6, true)), none⟩,
   ⟨(some 8), .mv (.c .junk), (some (6, true)), (some ((.c (.clo f_caesuraref01_Plain [] [])), [(.t 7)]))⟩,
   ⟨(some 9), .mv (.t 0), (some (6, true)), none⟩,
   ⟨(some 10), .mv (.c .junk), (some (6, true)), (some ((.c (.clo f_caesuraref01_Ranges [] [])), [(.t 8), (.t 9)]))⟩,
   ⟨(some 11), .pick (.t 6) (.t 10) (.c (.v (.bool false))), none, none⟩,
   ⟨(some 2), .mv (.t 11), none, none⟩])
  .ret))
def c_caesuraref01_Size (f_caesuraref01_Plain : FuncId) : AC :=
  (.seq (.reg none [
   ⟨(some 2), .mv (.c (.v (.int .i64 0))), none, none⟩])
  (.seq (.reg none [
   ⟨(some 3), .mv (.c (.v (.int .i64 0))), none, none⟩])
  (.seq (.reg none [
   ⟨(some 6), .mv (.t 0), none, none⟩,
   ⟨(some 7), .mv (.c .junk), none, (some ((.c (.clo f_caesuraref01_Plain [] [])), [(.t 6)]))⟩,
   ⟨(some 4), .mv (.t 7), none, none⟩])
  (.seq (.seq (.reg none [
   ⟨(some 5), .mv (.c (.v (.int .i64 0))), none, none⟩])
  (.block 0 (.loop (.seq (.seq (.reg none [
     ⟨(some 8), .mv (.t 5), none, none⟩,
     ⟨(some 9), .mv (.t 4), none, none⟩,
     ⟨(some 10), .len (.t 9), none, none⟩,
     ⟨(some 11), .bin .lss (.t 8) (.t 10), none, none⟩])
    (.cond (.t 11) .skip (.exit 0)))
    (.seq (.block 1 (.reg (some []) [
      ⟨(some 14), .mv (.t 3), none, none⟩,
      ⟨(some 15), .mv (.t 4), none, none⟩,
      ⟨(some 16), .mv (.t 5), none, none⟩,
      ⟨(some 17), .idxA 2 (.t 15) (.t 16), none, none⟩,
      ⟨(some 18), .fieldA 1 (.t 17), none, none⟩,
      ⟨(some 19), .load none (.t 18), none, none⟩,
      ⟨(some 20), .bin .add (.t 14) (.t 19), none, none⟩,
      ⟨(some 21), .mv (.t 4), none, none⟩,
      ⟨(some 22), .mv (.t 5), none, none⟩,
      ⟨(some 23), .idxA 2 (.t 21) (.t 22), none, none⟩,
      ⟨(some 24), .fieldA 0 (.t 23), none, none⟩,
      ⟨(some 25), .load none (.t 24), none, none⟩,
      ⟨(some 26), .bin .sub (.t 20) (.t 25), none, none⟩,
      ⟨(some 27), .bin .add (.t 26) (.c (.v (.int .i64 1))), none, none⟩,
      ⟨(some 3), .mv (.t 27), none, none⟩]))
    (.reg none [
     ⟨(some 12), .mv (.t 5), none, none⟩,
     ⟨(some 13), .bin .add (.t 12) (.c (.v (.int .i64 1))), none, none⟩,
     ⟨(some 5), .mv (.t 13), none, none⟩]))))))
  (.seq (.reg none [
   ⟨(some 28), .mv (.t 3), none, none⟩,
   ⟨(some 2), .mv (.t 28), none, none⟩])
  .ret)))))
def c_caesuraref02_Great : AC :=
  (.seq (.reg none [
   ⟨(some 4), .mv (.c (.v (.bool false))), none, none⟩])
  (.seq (.reg none [
   ⟨(some 7), .mv (.t 0), none, none⟩,
   ⟨(some 8), .len (.t 7), none, none⟩,
   ⟨(some 5), .mv (.t 8), none, none⟩])
  (.seq (.seq (.reg none [
   ⟨(some 6), .mv (.c (.v (.int .i64 0))), none, none⟩])
  (.block 0 (.loop (.seq (.seq (.reg none [
     ⟨(some 9), .mv (.t 6), none, none⟩,
     ⟨(some 10), .mv (.t 0), none, none⟩,
     ⟨(some 11), .len (.t 10), none, none⟩,
     ⟨(some 12), .bin .lss (.t 9) (.t 11), none, none⟩,
     ⟨(some 13), .mv (.t 12), none, none⟩,
     ⟨(some 14), .mv (.t 5), (some (13, true)), none⟩,
     ⟨(some 15), .mv (.t 1), (some (13, true)), none⟩,
     ⟨(some 16), .bin .leq (.t 14) (.t 15), (some (13, true)), none⟩,
     ⟨(some 17), .pick (.t 13) (.t 16) (.c (.v (.bool false))), none, none⟩])
    (.cond (.t 17) .skip (.exit 0)))
    (.seq (.block 1 (.reg none [
      ⟨(some 20), .mv (.t 5), none, none⟩,
      ⟨(some 21), .mv (.t 0), none, none⟩,
      ⟨(some 22), .mv (.t 6), none, none⟩,
      ⟨(some 23), .idxA 1 (.t 21) (.t 22), none, none⟩,
      ⟨(some 24), .load none (.t 23), none, none⟩,
      ⟨(some 25), .len (.t 24), none, none⟩,
      ⟨(some 26), .bin .add (.t 20) (.t 25), none, none⟩,
      ⟨(some 5), .mv (.t 26), none, none⟩]))
    (.reg none [
     ⟨(some 18), .mv (.t 6), none, none⟩,
     ⟨(some 19), .bin .add (.t 18) (.c (.v (.int .i64 1))), none, none⟩,
     ⟨(some 6), .mv (.t 19), none, none⟩]))))))
  (.seq (.reg none [
   ⟨(some 27), .mv (.t 5), none, none⟩,
   ⟨(some 28), .mv (.t 1), none, none⟩,
   ⟨(some 29), .bin .gtr (.t 27) (.t 28), none, none⟩,
   ⟨(some 4), .mv (.t 29), none, none⟩])
  .ret))))
def c_caesuraref02_Class (f_caesuraref01_Has : FuncId) : AC :=
  (.seq (.reg none [
   ⟨(some 4), .mv (.c (.v (.int .i64 0))), none, none⟩])
  (.seq (.seq (.reg none [
   ⟨(some 5), .mv (.c (.v (.int .i64 0))), none, none⟩])
  (.block 0 (.loop (.seq (.seq (.reg none [
     ⟨(some 6), .mv (.t 5), none, none⟩,
     ⟨(some 7), .mv (.t 0), none, none⟩,
     ⟨(some 8), .len (.t 7), none, none⟩,
     ⟨(some 9), .bin .lss (.t 6) (.t 8), none, none⟩])
    (.cond (.t 9) .skip (.exit 0)))
    (.seq (.block 1 (.seq (.reg none [
      ⟨(some 12), .mv (.t 0), none, none⟩,
      ⟨(some 13), .mv (.t 5), none, none⟩,
      ⟨(some 14), .idxA 1 (.t 12) (.t 13), none, none⟩,
      ⟨(some 15), .load none (.t 14), none, none⟩,
      ⟨(some 16), .mv (.t 1), none, none⟩,
      ⟨(some 17), .mv (.c .junk), none, (some ((.c (.clo f_caesuraref01_Has [] [])), [(.t 15), (.t 16)]))⟩])
     (.cond (.t 17) (.seq (.reg none [
       ⟨(some 18), .mv (.t 5), none, none⟩,
       ⟨(some 4), .mv (.t 18), none, none⟩])
      .ret) .skip)))
    (.reg none [
     ⟨(some 10), .mv (.t 5), none, none⟩,
     ⟨(some 11), .bin .add (.t 10) (.c (.v (.int .i64 1))), none, none⟩,
     ⟨(some 5), .mv (.t 11), none, none⟩]))))))
  (.seq (.reg none [
   ⟨(some 4), .mv (.c (.v (.int .i64 (-1)))), none, none⟩])
  .ret)))
def c_ra_in (f_caesuraref01_And : FuncId) : AC :=
  (.block 2 (.loop (.seq (.seq (.reg none [
        ⟨(some 46), .mv (.t 7), none, none⟩,
        ⟨(some 47), .mv (.t 5), none, none⟩,
        ⟨(some 48), .bin .lss (.t 46) (.t 47), none, none⟩])
       (.cond (.t 48) .skip (.exit 2)))
       (.seq (.block 3 (.seq (.reg (some []) [
         ⟨(some 51), .mv (.t 0), none, none⟩,
         ⟨(some 52), .mv (.t 5), none, none⟩,
         ⟨(some 53), .idxA 1 (.t 51) (.t 52), none, none⟩,
         ⟨(some 54), .load none (.t 53), none, none⟩,
         ⟨(some 55), .mv (.t 0), none, none⟩,
         ⟨(some 56), .mv (.t 7), none, none⟩,
         ⟨(some 57), .idxA 1 (.t 55) (.t 56), none, none⟩,
         ⟨(some 58), .load none (.t 57), none, none⟩,
         ⟨(some 59), .mv (.c .junk), none, (some ((.c (.clo f_caesuraref01_And [] [])), [(.t 54), (.t 58)]))⟩,
         ⟨(some 60), .len (.t 59), none, none⟩,
         ⟨(some 61), .bin .gtr (.t 60) (.c (.v (.int .i64 0))), none, none⟩])
        (.cond (.t 61) (.seq (.reg none [
          ⟨(some 2), .mv (.c (.v (.bool false))), none, none⟩])
         .ret) .skip)))
       (.reg none [
        ⟨(some 49), .mv (.t 7), none, none⟩,
        ⟨(some 50), .bin .add (.t 49) (.c (.v (.int .i64 1))), none, none⟩,
        ⟨(some 7), .mv (.t 50), none, none⟩])))))
def c_ra_out (f_caesuraref01_First f_caesuraref01_Right f_caesuraref01_Size f_caesuraref01_And : FuncId) : AC :=
  (.block 0 (.loop (.seq (.seq (.reg none [
     ⟨(some 16), .mv (.t 5), none, none⟩,
     ⟨(some 17), .mv (.t 0), none, none⟩,
     ⟨(some 18), .len (.t 17), none, none⟩,
     ⟨(some 19), .bin .lss (.t 16) (.t 18), none, none⟩])
    (.cond (.t 19) .skip (.exit 0)))
    (.seq (.block 1 (.seq (.reg none [
      ⟨(some 22), .mv (.t 0), none, none⟩,
      ⟨(some 23), .mv (.t 5), none, none⟩,
      ⟨(some 24), .idxA 1 (.t 22) (.t 23), none, none⟩,
      ⟨(some 25), .load none (.t 24), none, none⟩,
      ⟨(some 26), .mv (.c .junk), none, (some ((.c (.clo f_caesuraref01_First [] [])), [(.t 25)]))⟩,
      ⟨(some 6), .mv (.t 26), none, none⟩])
     (.seq (.seq (.reg none [
      ⟨(some 27), .mv (.t 0), none, none⟩,
      ⟨(some 28), .mv (.t 5), none, none⟩,
      ⟨(some 29), .idxA 1 (.t 27) (.t 28), none, none⟩,
      ⟨(some 30), .load none (.t 29), none, none⟩,
      ⟨(some 31), .mv (.c .junk), none, (some ((.c (.clo f_caesuraref01_Right [] [])), [(.t 30)]))⟩,
      ⟨(some 32), .un .not (.t 31), none, none⟩,
      ⟨(some 33), .mv (.t 32), none, none⟩,
      ⟨(some 34), .mv (.t 6), (some (33, false)), none⟩,
      ⟨(some 35), .mv (.t 4), (some (33, false)), none⟩,
      ⟨(some 36), .bin .leq (.t 34) (.t 35), (some (33, false)), none⟩,
      ⟨(some 37), .pick (.t 33) (.c (.v (.bool true))) (.t 36), none, none⟩])
     (.cond (.t 37) (.seq (.reg none [
       ⟨(some 2), .mv (.c (.v (.bool false))), none, none⟩])
      .ret) .skip))
     (.seq (.reg none [
      ⟨(some 38), .mv (.t 3), none, none⟩,
      ⟨(some 39), .mv (.t 0), none, none⟩,
      ⟨(some 40), .mv (.t 5), none, none⟩,
      ⟨(some 41), .idxA 1 (.t 39) (.t 40), none, none⟩,
      ⟨(some 42), .load none (.t 41), none, none⟩,
      ⟨(some 43), .mv (.c .junk), none, (some ((.c (.clo f_caesuraref01_Size [] [])), [(.t 42)]))⟩,
      ⟨(some 44), .bin .add (.t 38) (.t 43), none, none⟩,
      ⟨(some 45), .mv (.t 6), none, none⟩,
      ⟨(some 3), .mv (.t 44), none, none⟩,
      ⟨(some 4), .mv (.t 45), none, none⟩])
     (.seq (.reg none [
      ⟨(some 7), .mv (.c (.v (.int .i64 0))), none, none⟩])
     (c_ra_in f_caesuraref01_And))))))
    (.reg none [
     ⟨(some 20), .mv (.t 5), none, none⟩,
     ⟨(some 21), .bin .add (.t 20) (.c (.v (.int .i64 1))), none, none⟩,
     ⟨(some 5), .mv (.t 21), none, none⟩])))))
def c_caesuraref02_Right (f_caesuraref01_First f_caesuraref01_Right f_caesuraref01_Size f_caesuraref01_And : FuncId) : AC :=
  (.seq (.reg none [
   ⟨(some 2), .mv (.c (.v (.bool false))), none, none⟩])
  (.seq (.seq (.reg none [
   ⟨(some 8), .mv (.t 0), none, none⟩,
   ⟨(some 9), .len (.t 8), none, none⟩,
   ⟨(some 10), .bin .lss (.t 9) (.c (.v (.int .i64 1))), none, none⟩,
   ⟨(some 11), .mv (.t 10), none, none⟩,
   ⟨(some 12), .mv (.t 0), (some (11, false)), none⟩,
   ⟨(some 13), .len (.t 12), (some (11, false)), none⟩,
   ⟨(some 14), .bin .gtr (.t 13) (.c (.v (.int .i64 200))), (some (11, false)), none⟩,
   ⟨(some 15), .pick (.t 11) (.c (.v (.bool true))) (.t 14), none, none⟩])
  (.cond (.t 15) (.seq (.reg none [
    ⟨(some 2), .mv (.c (.v (.bool false))), none, none⟩])
   .ret) .skip))
  (.seq (.reg none [
   ⟨(some 3), .mv (.c (.v (.int .i64 0))), none, none⟩,
   ⟨(some 4), .mv (.c (.v (.int .i64 (-1)))), none, none⟩])
  (.seq (.seq (.reg none [
   ⟨(some 5), .mv (.c (.v (.int .i64 0))), none, none⟩])
  (c_ra_out f_caesuraref01_First f_caesuraref01_Right f_caesuraref01_Size f_caesuraref01_And))
  (.seq (.reg none [
   ⟨(some 62), .mv (.t 3), none, none⟩,
   ⟨(some 63), .bin .eql (.t 62) (.c (.v (.int .i64 1114112))), none, none⟩,
   ⟨(some 2), .mv (.t 63), none, none⟩])
  .ret)))))
def andF (a b : List Rg) : List Rg := madeF a b 1
def plainF (l : List Rg) : List Rg := madeF l [] 0
def firstF (l : List Rg) : Int := match plainF l with | [] => -1 | r :: _ => r.low
def rightF (l : List Rg) : Bool := decide (l.length ≤ 400) && decide (plainF l = l)
def sizeW (n : Int) (r : Rg) : Int := IntKind.i64.wrap (IntKind.i64.wrap (IntKind.i64.wrap (n + r.high) - r.low) + 1)
def sizeF (l : List Rg) : Int := (plainF l).foldl sizeW 0
theorem plainF_len (l : List Rg) : (plainF l).length ≤ 2000 := by
  have hlen := edgesS_len [l, []] [0]
  simp only [List.length_cons, List.length_nil] at hlen
  have := madeAt_len l [] 0 (edgesF [l, []]) (edgesF [l, []]).length
  unfold plainF madeF
  unfold madeAt at this
  have h2 : (edgesF [l, []]).length ≤ 1700 := by unfold edgesF; omega
  omega
abbrev HMade (P : Program) (fm : FuncId) : Prop := ∀ (a b : List Rg) (k : Int), k = 0 ∨ k = 1 ∨ k = 2 → PureC P fm [encRs a, encRs b, encI k] (encRs (madeF a b k))
theorem caesuraref01_And_body {P : Program} {fm : FuncId} (hm : HMade P fm) (a b : List Rg) : AW P (c_caesuraref01_And fm) (RetK [4] (FzK (encRs (andF a b)))) (argF [encRs a, encRs b]) S0 := by
  simp [Z0h, Z0c, Z0d, Z09, Z0a, Z0i, Z0b, Z0f, Z0g, Z2z, Z2y, Z07, Z08, Z06, Z01, Z02, Z00, Z04, Z05, Z03, Z1z, Z1y, Z46, Z48, Z47, Z45, Z1n, Z1o, Z1m, Z3n, Z3k, Z3m, Z3l, Z3o, Z1l, Z29, Z32, Z3x, Z1i, Z1j, Z1k, Z3v, Z3w, Z1g, Z28, Z1h, Z3i, Z3f, Z3h, Z3g, Z3j, Z41, Z40, Z0t, Z0u, Z0v, Z0s, Z1f, Z4c, Z4b, Z4d, Z4a, Z49, ex, Z43, Z42, ev_t, ev_c, Z27, Z26, Z4e, Z4f, Z2m, Z2l, Z2f, Z2j, Z2k, Z2g, Z2h, Z2i, putc, exBslice, lfill, exField, exIdxV, exIdxP, exBox, exAlloc, exLoad, exStore, exFieldA, exIdxA, exLen, exPick, exUn, exBeq, exMM, exSeq, seqGo, exExt, binV, intOp, subc, AV.solid, S0, encI, encB, c_caesuraref01_And]
  refine CallR.pure (hm a b 1 (by simp)) (cl_cons (closed_Rs _) (cl_cons (closed_Rs _) (cl_cons (Z2r _) cl_nil))) (closed_Rs _) ?_
  simp [Z0h, Z0c, Z0d, Z09, Z0a, Z0i, Z0b, Z0f, Z0g, Z2z, Z2y, Z07, Z08, Z06, Z01, Z02, Z00, Z04, Z05, Z03, Z1z, Z1y, Z46, Z48, Z47, Z45, Z1n, Z1o, Z1m, Z3n, Z3k, Z3m, Z3l, Z3o, Z1l, Z29, Z32, Z3x, Z1i, Z1j, Z1k, Z3v, Z3w, Z1g, Z28, Z1h, Z3i, Z3f, Z3h, Z3g, Z3j, Z41, Z40, Z0t, Z0u, Z0v, Z0s, Z1f, Z4c, Z4b, Z4d, Z4a, Z49, ex, Z43, Z42, ev_t, ev_c, Z27, Z26, Z4e, Z4f, Z2m, Z2l, Z2f, Z2j, Z2k, Z2g, Z2h, Z2i, putc, exBslice, lfill, exField, exIdxV, exIdxP, exBox, exAlloc, exLoad, exStore, exFieldA, exIdxA, exLen, exPick, exUn, exBeq, exMM, exSeq, seqGo, exExt, binV, intOp, subc, AV.solid, S0, encI, encB]
  exact .closed _ (closed_Rs _)
theorem caesuraref01_Or_body {P : Program} {fm : FuncId} (hm : HMade P fm) (a b : List Rg) : AW P (c_caesuraref01_Or fm) (RetK [4] (FzK (encRs (madeF a b 0)))) (argF [encRs a, encRs b]) S0 := by
  simp [Z0h, Z0c, Z0d, Z09, Z0a, Z0i, Z0b, Z0f, Z0g, Z2z, Z2y, Z07, Z08, Z06, Z01, Z02, Z00, Z04, Z05, Z03, Z1z, Z1y, Z46, Z48, Z47, Z45, Z1n, Z1o, Z1m, Z3n, Z3k, Z3m, Z3l, Z3o, Z1l, Z29, Z32, Z3x, Z1i, Z1j, Z1k, Z3v, Z3w, Z1g, Z28, Z1h, Z3i, Z3f, Z3h, Z3g, Z3j, Z41, Z40, Z0t, Z0u, Z0v, Z0s, Z1f, Z4c, Z4b, Z4d, Z4a, Z49, ex, Z43, Z42, ev_t, ev_c, Z27, Z26, Z4e, Z4f, Z2m, Z2l, Z2f, Z2j, Z2k, Z2g, Z2h, Z2i, putc, exBslice, lfill, exField, exIdxV, exIdxP, exBox, exAlloc, exLoad, exStore, exFieldA, exIdxA, exLen, exPick, exUn, exBeq, exMM, exSeq, seqGo, exExt, binV, intOp, subc, AV.solid, S0, encI, encB, c_caesuraref01_Or]
  refine CallR.pure (hm a b 0 (by simp)) (cl_cons (closed_Rs _) (cl_cons (closed_Rs _) (cl_cons (Z2r _) cl_nil))) (closed_Rs _) ?_
  simp [Z0h, Z0c, Z0d, Z09, Z0a, Z0i, Z0b, Z0f, Z0g, Z2z, Z2y, Z07, Z08, Z06, Z01, Z02, Z00, Z04, Z05, Z03, Z1z, Z1y, Z46, Z48, Z47, Z45, Z1n, Z1o, Z1m, Z3n, Z3k, Z3m, Z3l, Z3o, Z1l, Z29, Z32, Z3x, Z1i, Z1j, Z1k, Z3v, Z3w, Z1g, Z28, Z1h, Z3i, Z3f, Z3h, Z3g, Z3j, Z41, Z40, Z0t, Z0u, Z0v, Z0s, Z1f, Z4c, Z4b, Z4d, Z4a, Z49, ex, Z43, Z42, ev_t, ev_c, Z27, Z26, Z4e, Z4f, Z2m, Z2l, Z2f, Z2j, Z2k, Z2g, Z2h, Z2i, putc, exBslice, lfill, exField, exIdxV, exIdxP, exBox, exAlloc, exLoad, exStore, exFieldA, exIdxA, exLen, exPick, exUn, exBeq, exMM, exSeq, seqGo, exExt, binV, intOp, subc, AV.solid, S0, encI, encB]
  exact .closed _ (closed_Rs _)
theorem caesuraref01_Plain_body {P : Program} {fo : FuncId} (l : List Rg) (ho : PureC P fo [encRs l, .sl true []] (encRs (plainF l))) : AW P (c_caesuraref01_Plain fo) (RetK [2] (FzK (encRs (plainF l)))) (argF [encRs l]) S0 := by
  simp [Z0h, Z0c, Z0d, Z09, Z0a, Z0i, Z0b, Z0f, Z0g, Z2z, Z2y, Z07, Z08, Z06, Z01, Z02, Z00, Z04, Z05, Z03, Z1z, Z1y, Z46, Z48, Z47, Z45, Z1n, Z1o, Z1m, Z3n, Z3k, Z3m, Z3l, Z3o, Z1l, Z29, Z32, Z3x, Z1i, Z1j, Z1k, Z3v, Z3w, Z1g, Z28, Z1h, Z3i, Z3f, Z3h, Z3g, Z3j, Z41, Z40, Z0t, Z0u, Z0v, Z0s, Z1f, Z4c, Z4b, Z4d, Z4a, Z49, ex, Z43, Z42, ev_t, ev_c, Z27, Z26, Z4e, Z4f, Z2m, Z2l, Z2f, Z2j, Z2k, Z2g, Z2h, Z2i, putc, exBslice, lfill, exField, exIdxV, exIdxP, exBox, exAlloc, exLoad, exStore, exFieldA, exIdxA, exLen, exPick, exUn, exBeq, exMM, exSeq, seqGo, exExt, binV, intOp, subc, AV.solid, S0, encI, encB, c_caesuraref01_Plain]
  refine CallR.pure ho (cl_cons (closed_Rs _) (cl_cons (.sl _ _ (by simp)) cl_nil)) (closed_Rs _) ?_
  simp [Z0h, Z0c, Z0d, Z09, Z0a, Z0i, Z0b, Z0f, Z0g, Z2z, Z2y, Z07, Z08, Z06, Z01, Z02, Z00, Z04, Z05, Z03, Z1z, Z1y, Z46, Z48, Z47, Z45, Z1n, Z1o, Z1m, Z3n, Z3k, Z3m, Z3l, Z3o, Z1l, Z29, Z32, Z3x, Z1i, Z1j, Z1k, Z3v, Z3w, Z1g, Z28, Z1h, Z3i, Z3f, Z3h, Z3g, Z3j, Z41, Z40, Z0t, Z0u, Z0v, Z0s, Z1f, Z4c, Z4b, Z4d, Z4a, Z49, ex, Z43, Z42, ev_t, ev_c, Z27, Z26, Z4e, Z4f, Z2m, Z2l, Z2f, Z2j, Z2k, Z2g, Z2h, Z2i, putc, exBslice, lfill, exField, exIdxV, exIdxP, exBox, exAlloc, exLoad, exStore, exFieldA, exIdxA, exLen, exPick, exUn, exBeq, exMM, exSeq, seqGo, exExt, binV, intOp, subc, AV.solid, S0, encI, encB]
  exact .closed _ (closed_Rs _)
theorem caesuraref01_First_body {P : Program} {fp : FuncId} (l : List Rg) (hp : PureC P fp [encRs l] (encRs (plainF l))) : AW P (c_caesuraref01_First fp) (RetK [2] (FzK (encI (firstF l)))) (argF [encRs l]) S0 := by
  simp [Z0h, Z0c, Z0d, Z09, Z0a, Z0i, Z0b, Z0f, Z0g, Z2z, Z2y, Z07, Z08, Z06, Z01, Z02, Z00, Z04, Z05, Z03, Z1z, Z1y, Z46, Z48, Z47, Z45, Z1n, Z1o, Z1m, Z3n, Z3k, Z3m, Z3l, Z3o, Z1l, Z29, Z32, Z3x, Z1i, Z1j, Z1k, Z3v, Z3w, Z1g, Z28, Z1h, Z3i, Z3f, Z3h, Z3g, Z3j, Z41, Z40, Z0t, Z0u, Z0v, Z0s, Z1f, Z4c, Z4b, Z4d, Z4a, Z49, ex, Z43, Z42, ev_t, ev_c, Z27, Z26, Z4e, Z4f, Z2m, Z2l, Z2f, Z2j, Z2k, Z2g, Z2h, Z2i, putc, exBslice, lfill, exField, exIdxV, exIdxP, exBox, exAlloc, exLoad, exStore, exFieldA, exIdxA, exLen, exPick, exUn, exBeq, exMM, exSeq, seqGo, exExt, binV, intOp, subc, AV.solid, S0, encI, encB, c_caesuraref01_First]
  refine CallR.pure hp (cl_cons (closed_Rs _) cl_nil) (closed_Rs _) ?_
  cases h : plainF l with
  | nil =>
    have hr : firstF l = -1 := by unfold firstF; rw [h]
    simp [Z0h, Z0c, Z0d, Z09, Z0a, Z0i, Z0b, Z0f, Z0g, Z2z, Z2y, Z07, Z08, Z06, Z01, Z02, Z00, Z04, Z05, Z03, Z1z, Z1y, Z46, Z48, Z47, Z45, Z1n, Z1o, Z1m, Z3n, Z3k, Z3m, Z3l, Z3o, Z1l, Z29, Z32, Z3x, Z1i, Z1j, Z1k, Z3v, Z3w, Z1g, Z28, Z1h, Z3i, Z3f, Z3h, Z3g, Z3j, Z41, Z40, Z0t, Z0u, Z0v, Z0s, Z1f, Z4c, Z4b, Z4d, Z4a, Z49, ex, Z43, Z42, ev_t, ev_c, Z27, Z26, Z4e, Z4f, Z2m, Z2l, Z2f, Z2j, Z2k, Z2g, Z2h, Z2i, putc, exBslice, lfill, exField, exIdxV, exIdxP, exBox, exAlloc, exLoad, exStore, exFieldA, exIdxA, exLen, exPick, exUn, exBeq, exMM, exSeq, seqGo, exExt, binV, intOp, subc, AV.solid, S0, encI, encB, encRs, hr]
    exact FzK_I _ _
  | cons r t =>
    have hr : firstF l = r.low := by unfold firstF; rw [h]
    have h1 : ((t.length : Int) + 1 == 0) = false := beq_false_of_ne (by omega)
    simp [Z0h, Z0c, Z0d, Z09, Z0a, Z0i, Z0b, Z0f, Z0g, Z2z, Z2y, Z07, Z08, Z06, Z01, Z02, Z00, Z04, Z05, Z03, Z1z, Z1y, Z46, Z48, Z47, Z45, Z1n, Z1o, Z1m, Z3n, Z3k, Z3m, Z3l, Z3o, Z1l, Z29, Z32, Z3x, Z1i, Z1j, Z1k, Z3v, Z3w, Z1g, Z28, Z1h, Z3i, Z3f, Z3h, Z3g, Z3j, Z41, Z40, Z0t, Z0u, Z0v, Z0s, Z1f, Z4c, Z4b, Z4d, Z4a, Z49, ex, Z43, Z42, ev_t, ev_c, Z27, Z26, Z4e, Z4f, Z2m, Z2l, Z2f, Z2j, Z2k, Z2g, Z2h, Z2i, putc, exBslice, lfill, exField, exIdxV, exIdxP, exBox, exAlloc, exLoad, exStore, exFieldA, exIdxA, exLen, exPick, exUn, exBeq, exMM, exSeq, seqGo, exExt, binV, intOp, subc, AV.solid, S0, encI, encB, encRs, encR, hr, h1]
    exact FzK_I _ _
theorem caesuraref01_Right_body {P : Program} {fp fr : FuncId} (l : List Rg) (hp : PureC P fp [encRs l] (encRs (plainF l))) (hr : ∀ a b : List Rg, a.length ≤ 100000 → PureC P fr [encRs a, encRs b] (encB (decide (a = b)))) :
    AW P (c_caesuraref01_Right fp fr) (RetK [2] (FzK (encB (rightF l)))) (argF [encRs l]) S0 := by
  by_cases h4 : l.length ≤ 400
  · have h4' : (l.length : Int) ≤ 400 := by omega
    have e : rightF l = decide (plainF l = l) := by unfold rightF; rw [decide_eq_true h4, Bool.true_and]
    have el : argF [encRs l] = argF [.sl false (l.map encR)] := rfl
    rw [e, el]
    simp [Z0h, Z0c, Z0d, Z09, Z0a, Z0i, Z0b, Z0f, Z0g, Z2z, Z2y, Z07, Z08, Z06, Z01, Z02, Z00, Z04, Z05, Z03, Z1z, Z1y, Z46, Z48, Z47, Z45, Z1n, Z1o, Z1m, Z3n, Z3k, Z3m, Z3l, Z3o, Z1l, Z29, Z32, Z3x, Z1i, Z1j, Z1k, Z3v, Z3w, Z1g, Z28, Z1h, Z3i, Z3f, Z3h, Z3g, Z3j, Z41, Z40, Z0t, Z0u, Z0v, Z0s, Z1f, Z4c, Z4b, Z4d, Z4a, Z49, ex, Z43, Z42, ev_t, ev_c, Z27, Z26, Z4e, Z4f, Z2m, Z2l, Z2f, Z2j, Z2k, Z2g, Z2h, Z2i, putc, exBslice, lfill, exField, exIdxV, exIdxP, exBox, exAlloc, exLoad, exStore, exFieldA, exIdxA, exLen, exPick, exUn, exBeq, exMM, exSeq, seqGo, exExt, binV, intOp, subc, AV.solid, S0, encI, encB, c_caesuraref01_Right, h4, h4']
    refine CallR.pure hp (cl_cons (closed_Rs _) cl_nil) (closed_Rs _) ?_
    simp [Z0h, Z0c, Z0d, Z09, Z0a, Z0i, Z0b, Z0f, Z0g, Z2z, Z2y, Z07, Z08, Z06, Z01, Z02, Z00, Z04, Z05, Z03, Z1z, Z1y, Z46, Z48, Z47, Z45, Z1n, Z1o, Z1m, Z3n, Z3k, Z3m, Z3l, Z3o, Z1l, Z29, Z32, Z3x, Z1i, Z1j, Z1k, Z3v, Z3w, Z1g, Z28, Z1h, Z3i, Z3f, Z3h, Z3g, Z3j, Z41, Z40, Z0t, Z0u, Z0v, Z0s, Z1f, Z4c, Z4b, Z4d, Z4a, Z49, ex, Z43, Z42, ev_t, ev_c, Z27, Z26, Z4e, Z4f, Z2m, Z2l, Z2f, Z2j, Z2k, Z2g, Z2h, Z2i, putc, exBslice, lfill, exField, exIdxV, exIdxP, exBox, exAlloc, exLoad, exStore, exFieldA, exIdxA, exLen, exPick, exUn, exBeq, exMM, exSeq, seqGo, exExt, binV, intOp, subc, AV.solid, S0, encI, encB]
    refine CallR.pure (hr (plainF l) l (by have := plainF_len l; omega)) (cl_cons (closed_Rs _) (cl_cons (closed_Rs _) cl_nil)) (Z2o _) ?_
    simp [Z0h, Z0c, Z0d, Z09, Z0a, Z0i, Z0b, Z0f, Z0g, Z2z, Z2y, Z07, Z08, Z06, Z01, Z02, Z00, Z04, Z05, Z03, Z1z, Z1y, Z46, Z48, Z47, Z45, Z1n, Z1o, Z1m, Z3n, Z3k, Z3m, Z3l, Z3o, Z1l, Z29, Z32, Z3x, Z1i, Z1j, Z1k, Z3v, Z3w, Z1g, Z28, Z1h, Z3i, Z3f, Z3h, Z3g, Z3j, Z41, Z40, Z0t, Z0u, Z0v, Z0s, Z1f, Z4c, Z4b, Z4d, Z4a, Z49, ex, Z43, Z42, ev_t, ev_c, Z27, Z26, Z4e, Z4f, Z2m, Z2l, Z2f, Z2j, Z2k, Z2g, Z2h, Z2i, putc, exBslice, lfill, exField, exIdxV, exIdxP, exBox, exAlloc, exLoad, exStore, exFieldA, exIdxA, exLen, exPick, exUn, exBeq, exMM, exSeq, seqGo, exExt, binV, intOp, subc, AV.solid, S0, encI, encB]
    exact FzK_B _ _
  · have h4' : ¬ (l.length : Int) ≤ 400 := by omega
    have e : rightF l = false := by unfold rightF; rw [decide_eq_false h4, Bool.false_and]
    simp [Z0h, Z0c, Z0d, Z09, Z0a, Z0i, Z0b, Z0f, Z0g, Z2z, Z2y, Z07, Z08, Z06, Z01, Z02, Z00, Z04, Z05, Z03, Z1z, Z1y, Z46, Z48, Z47, Z45, Z1n, Z1o, Z1m, Z3n, Z3k, Z3m, Z3l, Z3o, Z1l, Z29, Z32, Z3x, Z1i, Z1j, Z1k, Z3v, Z3w, Z1g, Z28, Z1h, Z3i, Z3f, Z3h, Z3g, Z3j, Z41, Z40, Z0t, Z0u, Z0v, Z0s, Z1f, Z4c, Z4b, Z4d, Z4a, Z49, ex, Z43, Z42, ev_t, ev_c, Z27, Z26, Z4e, Z4f, Z2m, Z2l, Z2f, Z2j, Z2k, Z2g, Z2h, Z2i, putc, exBslice, lfill, exField, exIdxV, exIdxP, exBox, exAlloc, exLoad, exStore, exFieldA, exIdxA, exLen, exPick, exUn, exBeq, exMM, exSeq, seqGo, exExt, binV, intOp, subc, AV.solid, S0, encI, encB, c_caesuraref01_Right, encRs, h4, h4', e]
    exact FzK_B _ _
def szI (p : List Rg) (m : Nat) (f : AF) (S : St) : Prop := ∃ i, i ≤ p.length ∧ m = p.length - i ∧ f 3 = encI ((p.take i).foldl sizeW 0) ∧ f 4 = encRs p ∧ f 5 = encI i
theorem caesuraref01_Size_body {P : Program} {fp : FuncId} (l : List Rg) (hp : PureC P fp [encRs l] (encRs (plainF l))) : AW P (c_caesuraref01_Size fp) (RetK [2] (FzK (encI (sizeF l)))) (argF [encRs l]) S0 := by
  have hpl := plainF_len l
  simp [Z0h, Z0c, Z0d, Z09, Z0a, Z0i, Z0b, Z0f, Z0g, Z2z, Z2y, Z07, Z08, Z06, Z01, Z02, Z00, Z04, Z05, Z03, Z1z, Z1y, Z46, Z48, Z47, Z45, Z1n, Z1o, Z1m, Z3n, Z3k, Z3m, Z3l, Z3o, Z1l, Z29, Z32, Z3x, Z1i, Z1j, Z1k, Z3v, Z3w, Z1g, Z28, Z1h, Z3i, Z3f, Z3h, Z3g, Z3j, Z41, Z40, Z0t, Z0u, Z0v, Z0s, Z1f, Z4c, Z4b, Z4d, Z4a, Z49, ex, Z43, Z42, ev_t, ev_c, Z27, Z26, Z4e, Z4f, Z2m, Z2l, Z2f, Z2j, Z2k, Z2g, Z2h, Z2i, putc, exBslice, lfill, exField, exIdxV, exIdxP, exBox, exAlloc, exLoad, exStore, exFieldA, exIdxA, exLen, exPick, exUn, exBeq, exMM, exSeq, seqGo, exExt, binV, intOp, subc, AV.solid, S0, encI, encB, c_caesuraref01_Size]
  refine CallR.pure hp (cl_cons (closed_Rs _) cl_nil) (closed_Rs _) ?_
  simp [Z0h, Z0c, Z0d, Z09, Z0a, Z0i, Z0b, Z0f, Z0g, Z2z, Z2y, Z07, Z08, Z06, Z01, Z02, Z00, Z04, Z05, Z03, Z1z, Z1y, Z46, Z48, Z47, Z45, Z1n, Z1o, Z1m, Z3n, Z3k, Z3m, Z3l, Z3o, Z1l, Z29, Z32, Z3x, Z1i, Z1j, Z1k, Z3v, Z3w, Z1g, Z28, Z1h, Z3i, Z3f, Z3h, Z3g, Z3j, Z41, Z40, Z0t, Z0u, Z0v, Z0s, Z1f, Z4c, Z4b, Z4d, Z4a, Z49, ex, Z43, Z42, ev_t, ev_c, Z27, Z26, Z4e, Z4f, Z2m, Z2l, Z2f, Z2j, Z2k, Z2g, Z2h, Z2i, putc, exBslice, lfill, exField, exIdxV, exIdxP, exBox, exAlloc, exLoad, exStore, exFieldA, exIdxA, exLen, exPick, exUn, exBeq, exMM, exSeq, seqGo, exExt, binV, intOp, subc, AV.solid, S0, encI, encB]
  unfold sizeF
  generalize plainF l = p at *
  refine AW_loop (szI p) p.length ?_ ?_
  · refine ⟨0, by omega, rfl, ?_, ?_, ?_⟩ <;> simp [Z43, encI]
  · rintro m f S ⟨i, hi, rfl, e3, e4, e5⟩
    by_cases hlt : i < p.length
    · have hI : (i : Int) < p.length := by omega
      have hg : p[i]? = some p[i] := List.getElem?_eq_getElem hlt
      have hfold : (p.take (i + 1)).foldl sizeW 0 = sizeW ((p.take i).foldl sizeW 0) p[i] := by rw [List.take_add_one, hg, List.foldl_append]; rfl
      have hw : IntKind.i64.wrap ((i : Int) + 1) = (i : Int) + 1 := wrap_in _ (by omega)
      simp [Z0h, Z0c, Z0d, Z09, Z0a, Z0i, Z0b, Z0f, Z0g, Z2z, Z2y, Z07, Z08, Z06, Z01, Z02, Z00, Z04, Z05, Z03, Z1z, Z1y, Z46, Z48, Z47, Z45, Z1n, Z1o, Z1m, Z3n, Z3k, Z3m, Z3l, Z3o, Z1l, Z29, Z32, Z3x, Z1i, Z1j, Z1k, Z3v, Z3w, Z1g, Z28, Z1h, Z3i, Z3f, Z3h, Z3g, Z3j, Z41, Z40, Z0t, Z0u, Z0v, Z0s, Z1f, Z4c, Z4b, Z4d, Z4a, Z49, ex, Z43, Z42, ev_t, ev_c, Z27, Z26, Z4e, Z4f, Z2m, Z2l, Z2f, Z2j, Z2k, Z2g, Z2h, Z2i, putc, exBslice, lfill, exField, exIdxV, exIdxP, exBox, exAlloc, exLoad, exStore, exFieldA, exIdxA, exLen, exPick, exUn, exBeq, exMM, exSeq, seqGo, exExt, binV, intOp, subc, AV.solid, S0, encI, encB, e3, e4, e5, encRs, encR, hI, hlt, hg, hw]
      refine ⟨p.length - (i + 1), by omega, i + 1, by omega, rfl, ?_, ?_, ?_⟩
      · rw [hfold]; simp [Z43, encI, sizeW]
      · simp [Z43, e4, encRs]
      · simp [Z43, encI]
    · have hI : ¬ (i : Int) < p.length := by omega
      have hil : i = p.length := by omega
      rw [hil, List.take_length] at e3
      simp [Z0h, Z0c, Z0d, Z09, Z0a, Z0i, Z0b, Z0f, Z0g, Z2z, Z2y, Z07, Z08, Z06, Z01, Z02, Z00, Z04, Z05, Z03, Z1z, Z1y, Z46, Z48, Z47, Z45, Z1n, Z1o, Z1m, Z3n, Z3k, Z3m, Z3l, Z3o, Z1l, Z29, Z32, Z3x, Z1i, Z1j, Z1k, Z3v, Z3w, Z1g, Z28, Z1h, Z3i, Z3f, Z3h, Z3g, Z3j, Z41, Z40, Z0t, Z0u, Z0v, Z0s, Z1f, Z4c, Z4b, Z4d, Z4a, Z49, ex, Z43, Z42, ev_t, ev_c, Z27, Z26, Z4e, Z4f, Z2m, Z2l, Z2f, Z2j, Z2k, Z2g, Z2h, Z2i, putc, exBslice, lfill, exField, exIdxV, exIdxP, exBox, exAlloc, exLoad, exStore, exFieldA, exIdxA, exLen, exPick, exUn, exBeq, exMM, exSeq, seqGo, exExt, binV, intOp, subc, AV.solid, S0, encI, encB, e3, e4, e5, encRs, hI, hlt]
      exact FzK_I _ _
def grA (most : Int) : Int → List (List Rg) → Bool
  | n, [] => decide (most < n)
  | n, s :: r => if n ≤ most then grA most (n + s.length) r else true
def greatA (sets : List (List Rg)) (most : Int) : Bool := grA most sets.length sets
theorem grA_le {most : Int} : ∀ {n : Int} {l : List (List Rg)}, grA most n l = false → n ≤ most
  | n, [], h => by simp only [grA, decide_eq_false_iff_not] at h; omega
  | n, s :: r, h => by
    simp only [grA] at h
    split at h
    · assumption
    · cases h
def grI (sets : List (List Rg)) (most : Int) (m : Nat) (f : AF) (S : St) : Prop :=
  ∃ i, i ≤ sets.length ∧ m = sets.length - i ∧ f 0 = encRss sets ∧ f 1 = encI most ∧ f 6 = encI i ∧ ∃ n : Int, f 5 = encI n ∧ 0 ≤ n ∧ n ≤ 300000000000000 ∧ grA most n (sets.drop i) = greatA sets most
theorem caesuraref02_Great_body {P : Program} (sets : List (List Rg)) (most : Int) (hm : most ≤ 3000) (hl : sets.length ≤ 140737488351232) (hls : ∀ s ∈ sets, s.length ≤ 140737488351232) :
    AW P c_caesuraref02_Great (RetK [4] (FzK (encB (greatA sets most)))) (argF [encRss sets, encI most]) S0 := by
  have el : argF [encRss sets, encI most] = argF [.sl false (sets.map encRs), encI most] := rfl
  rw [el]
  simp [Z0h, Z0c, Z0d, Z09, Z0a, Z0i, Z0b, Z0f, Z0g, Z2z, Z2y, Z07, Z08, Z06, Z01, Z02, Z00, Z04, Z05, Z03, Z1z, Z1y, Z46, Z48, Z47, Z45, Z1n, Z1o, Z1m, Z3n, Z3k, Z3m, Z3l, Z3o, Z1l, Z29, Z32, Z3x, Z1i, Z1j, Z1k, Z3v, Z3w, Z1g, Z28, Z1h, Z3i, Z3f, Z3h, Z3g, Z3j, Z41, Z40, Z0t, Z0u, Z0v, Z0s, Z1f, Z4c, Z4b, Z4d, Z4a, Z49, ex, Z43, Z42, ev_t, ev_c, Z27, Z26, Z4e, Z4f, Z2m, Z2l, Z2f, Z2j, Z2k, Z2g, Z2h, Z2i, putc, exBslice, lfill, exField, exIdxV, exIdxP, exBox, exAlloc, exLoad, exStore, exFieldA, exIdxA, exLen, exPick, exUn, exBeq, exMM, exSeq, seqGo, exExt, binV, intOp, subc, AV.solid, S0, encI, encB, c_caesuraref02_Great]
  refine AW_loop (grI sets most) sets.length ?_ ?_
  · refine ⟨0, by omega, rfl, ?_, ?_, ?_, (sets.length : Int), ?_, by omega, by omega, rfl⟩ <;> simp [Z43, Z27, Z26, encI, encRss]
  · rintro m f S ⟨i, hi, rfl, e0, e1, e6, n, e5, hn0, hn1, hg⟩
    have e0' : f 0 = .sl false (sets.map encRs) := e0
    by_cases hlt : i < sets.length
    · have hI : (i : Int) < sets.length := by omega
      have hgi : sets[i]? = some sets[i] := List.getElem?_eq_getElem hlt
      rw [List.drop_eq_getElem_cons hlt, grA] at hg
      by_cases hc : n ≤ most
      · rw [if_pos hc] at hg
        have hlen := hls sets[i] (List.getElem_mem hlt)
        have hw : IntKind.i64.wrap ((i : Int) + 1) = (i : Int) + 1 := wrap_in _ (by omega)
        have hw2 : IntKind.i64.wrap (n + (sets[i]).length) = n + (sets[i]).length := wrap_in _ (by omega)
        simp [Z0h, Z0c, Z0d, Z09, Z0a, Z0i, Z0b, Z0f, Z0g, Z2z, Z2y, Z07, Z08, Z06, Z01, Z02, Z00, Z04, Z05, Z03, Z1z, Z1y, Z46, Z48, Z47, Z45, Z1n, Z1o, Z1m, Z3n, Z3k, Z3m, Z3l, Z3o, Z1l, Z29, Z32, Z3x, Z1i, Z1j, Z1k, Z3v, Z3w, Z1g, Z28, Z1h, Z3i, Z3f, Z3h, Z3g, Z3j, Z41, Z40, Z0t, Z0u, Z0v, Z0s, Z1f, Z4c, Z4b, Z4d, Z4a, Z49, ex, Z43, Z42, ev_t, ev_c, Z27, Z26, Z4e, Z4f, Z2m, Z2l, Z2f, Z2j, Z2k, Z2g, Z2h, Z2i, putc, exBslice, lfill, exField, exIdxV, exIdxP, exBox, exAlloc, exLoad, exStore, exFieldA, exIdxA, exLen, exPick, exUn, exBeq, exMM, exSeq, seqGo, exExt, binV, intOp, subc, AV.solid, S0, encI, encB, e0', e1, e5, e6, encRs, hI, hlt, hgi, hc, hw, hw2]
        refine ⟨sets.length - (i + 1), by omega, i + 1, by omega, rfl, ?_, ?_, ?_, n + (sets[i]).length, ?_, by omega, by omega, hg⟩
        · simp [Z43, e0]
        · simp [Z43, e1]
        · simp [Z43, encI]
        · simp [Z43, encI]
      · rw [if_neg hc] at hg
        have hgt : most < n := by omega
        simp [Z0h, Z0c, Z0d, Z09, Z0a, Z0i, Z0b, Z0f, Z0g, Z2z, Z2y, Z07, Z08, Z06, Z01, Z02, Z00, Z04, Z05, Z03, Z1z, Z1y, Z46, Z48, Z47, Z45, Z1n, Z1o, Z1m, Z3n, Z3k, Z3m, Z3l, Z3o, Z1l, Z29, Z32, Z3x, Z1i, Z1j, Z1k, Z3v, Z3w, Z1g, Z28, Z1h, Z3i, Z3f, Z3h, Z3g, Z3j, Z41, Z40, Z0t, Z0u, Z0v, Z0s, Z1f, Z4c, Z4b, Z4d, Z4a, Z49, ex, Z43, Z42, ev_t, ev_c, Z27, Z26, Z4e, Z4f, Z2m, Z2l, Z2f, Z2j, Z2k, Z2g, Z2h, Z2i, putc, exBslice, lfill, exField, exIdxV, exIdxP, exBox, exAlloc, exLoad, exStore, exFieldA, exIdxA, exLen, exPick, exUn, exBeq, exMM, exSeq, seqGo, exExt, binV, intOp, subc, AV.solid, S0, encI, encB, e0', e1, e5, e6, hI, hlt, hc, hgt]
        rw [← hg]
        exact FzK_B _ _
    · have hI : ¬ (i : Int) < sets.length := by omega
      rw [List.drop_of_length_le (by omega), grA] at hg
      rw [← hg]
      simp [Z0h, Z0c, Z0d, Z09, Z0a, Z0i, Z0b, Z0f, Z0g, Z2z, Z2y, Z07, Z08, Z06, Z01, Z02, Z00, Z04, Z05, Z03, Z1z, Z1y, Z46, Z48, Z47, Z45, Z1n, Z1o, Z1m, Z3n, Z3k, Z3m, Z3l, Z3o, Z1l, Z29, Z32, Z3x, Z1i, Z1j, Z1k, Z3v, Z3w, Z1g, Z28, Z1h, Z3i, Z3f, Z3h, Z3g, Z3j, Z41, Z40, Z0t, Z0u, Z0v, Z0s, Z1f, Z4c, Z4b, Z4d, Z4a, Z49, ex, Z43, Z42, ev_t, ev_c, Z27, Z26, Z4e, Z4f, Z2m, Z2l, Z2f, Z2j, Z2k, Z2g, Z2h, Z2i, putc, exBslice, lfill, exField, exIdxV, exIdxP, exBox, exAlloc, exLoad, exStore, exFieldA, exIdxA, exLen, exPick, exUn, exBeq, exMM, exSeq, seqGo, exExt, binV, intOp, subc, AV.solid, S0, encI, encB, e0', e1, e5, e6, hI, hlt]
      exact FzK_B _ _
def classI (atoms : List (List Rg)) (c : Int) (m : Nat) (f : AF) (S : St) : Prop :=
  ∃ i, i ≤ atoms.length ∧ m = atoms.length - i ∧ f 0 = encRss atoms ∧ f 1 = encI c ∧ f 5 = encI i ∧ ∀ k (hk : k < atoms.length), k < i → hasR atoms[k] c = false
def classF (atoms : List (List Rg)) (c : Int) : Int := idxF (fun a => hasR a c) atoms
theorem caesuraref02_Class_body {P : Program} {fh : FuncId} (atoms : List (List Rg)) (c : Int) (hl : atoms.length ≤ 100000) (hh : ∀ l c, PureC P fh [encRs l, encI c] (encB (hasR l c))) : AW P (c_caesuraref02_Class fh) (RetK [4] (FzK (encI (classF atoms c)))) (argF [encRss atoms, encI c]) S0 := by
  simp [Z0h, Z0c, Z0d, Z09, Z0a, Z0i, Z0b, Z0f, Z0g, Z2z, Z2y, Z07, Z08, Z06, Z01, Z02, Z00, Z04, Z05, Z03, Z1z, Z1y, Z46, Z48, Z47, Z45, Z1n, Z1o, Z1m, Z3n, Z3k, Z3m, Z3l, Z3o, Z1l, Z29, Z32, Z3x, Z1i, Z1j, Z1k, Z3v, Z3w, Z1g, Z28, Z1h, Z3i, Z3f, Z3h, Z3g, Z3j, Z41, Z40, Z0t, Z0u, Z0v, Z0s, Z1f, Z4c, Z4b, Z4d, Z4a, Z49, ex, Z43, Z42, ev_t, ev_c, Z27, Z26, Z4e, Z4f, Z2m, Z2l, Z2f, Z2j, Z2k, Z2g, Z2h, Z2i, putc, exBslice, lfill, exField, exIdxV, exIdxP, exBox, exAlloc, exLoad, exStore, exFieldA, exIdxA, exLen, exPick, exUn, exBeq, exMM, exSeq, seqGo, exExt, binV, intOp, subc, AV.solid, S0, encI, encB, c_caesuraref02_Class]
  refine AW_loop (classI atoms c) atoms.length ?_ ?_
  · refine ⟨0, by omega, rfl, ?_, ?_, ?_, fun k _ hk => by omega⟩ <;> simp [Z43, Z27, Z26, encI]
  · rintro m f S ⟨i, hi, rfl, e0, e1, e5, hno⟩
    by_cases hlt : i < atoms.length
    · have hI : (i : Int) < atoms.length := by omega
      have hg : atoms[i]? = some atoms[i] := List.getElem?_eq_getElem hlt
      simp [Z0h, Z0c, Z0d, Z09, Z0a, Z0i, Z0b, Z0f, Z0g, Z2z, Z2y, Z07, Z08, Z06, Z01, Z02, Z00, Z04, Z05, Z03, Z1z, Z1y, Z46, Z48, Z47, Z45, Z1n, Z1o, Z1m, Z3n, Z3k, Z3m, Z3l, Z3o, Z1l, Z29, Z32, Z3x, Z1i, Z1j, Z1k, Z3v, Z3w, Z1g, Z28, Z1h, Z3i, Z3f, Z3h, Z3g, Z3j, Z41, Z40, Z0t, Z0u, Z0v, Z0s, Z1f, Z4c, Z4b, Z4d, Z4a, Z49, ex, Z43, Z42, ev_t, ev_c, Z27, Z26, Z4e, Z4f, Z2m, Z2l, Z2f, Z2j, Z2k, Z2g, Z2h, Z2i, putc, exBslice, lfill, exField, exIdxV, exIdxP, exBox, exAlloc, exLoad, exStore, exFieldA, exIdxA, exLen, exPick, exUn, exBeq, exMM, exSeq, seqGo, exExt, binV, intOp, subc, AV.solid, S0, encI, encB, e0, e1, e5, encRss, encRs, hI, hlt, hg]
      refine CallR.pure (hh atoms[i] c) (cl_cons (closed_Rs _) (cl_cons (Z2r _) cl_nil)) (Z2o _) ?_
      cases hb : hasR atoms[i] c with
      | true =>
        have hr : classF atoms c = (i : Int) := by
          have hany : atoms.any (fun a => hasR a c) = true := List.any_eq_true.mpr ⟨atoms[i], List.getElem_mem hlt, hb⟩
          unfold classF idxF
          rw [if_pos hany]
          congr 1
          rw [List.findIdx_eq hlt]
          exact ⟨hb, fun j hj => hno j (by omega) hj⟩
        simp [Z0h, Z0c, Z0d, Z09, Z0a, Z0i, Z0b, Z0f, Z0g, Z2z, Z2y, Z07, Z08, Z06, Z01, Z02, Z00, Z04, Z05, Z03, Z1z, Z1y, Z46, Z48, Z47, Z45, Z1n, Z1o, Z1m, Z3n, Z3k, Z3m, Z3l, Z3o, Z1l, Z29, Z32, Z3x, Z1i, Z1j, Z1k, Z3v, Z3w, Z1g, Z28, Z1h, Z3i, Z3f, Z3h, Z3g, Z3j, Z41, Z40, Z0t, Z0u, Z0v, Z0s, Z1f, Z4c, Z4b, Z4d, Z4a, Z49, ex, Z43, Z42, ev_t, ev_c, Z27, Z26, Z4e, Z4f, Z2m, Z2l, Z2f, Z2j, Z2k, Z2g, Z2h, Z2i, putc, exBslice, lfill, exField, exIdxV, exIdxP, exBox, exAlloc, exLoad, exStore, exFieldA, exIdxA, exLen, exPick, exUn, exBeq, exMM, exSeq, seqGo, exExt, binV, intOp, subc, AV.solid, S0, encI, encB, e5, hr]
        exact FzK_I _ _
      | false =>
        simp [Z0h, Z0c, Z0d, Z09, Z0a, Z0i, Z0b, Z0f, Z0g, Z2z, Z2y, Z07, Z08, Z06, Z01, Z02, Z00, Z04, Z05, Z03, Z1z, Z1y, Z46, Z48, Z47, Z45, Z1n, Z1o, Z1m, Z3n, Z3k, Z3m, Z3l, Z3o, Z1l, Z29, Z32, Z3x, Z1i, Z1j, Z1k, Z3v, Z3w, Z1g, Z28, Z1h, Z3i, Z3f, Z3h, Z3g, Z3j, Z41, Z40, Z0t, Z0u, Z0v, Z0s, Z1f, Z4c, Z4b, Z4d, Z4a, Z49, ex, Z43, Z42, ev_t, ev_c, Z27, Z26, Z4e, Z4f, Z2m, Z2l, Z2f, Z2j, Z2k, Z2g, Z2h, Z2i, putc, exBslice, lfill, exField, exIdxV, exIdxP, exBox, exAlloc, exLoad, exStore, exFieldA, exIdxA, exLen, exPick, exUn, exBeq, exMM, exSeq, seqGo, exExt, binV, intOp, subc, AV.solid, S0, encI, encB, e5]
        rw [wrap_in _ (by omega)]
        refine ⟨atoms.length - (i + 1), by omega, i + 1, by omega, rfl, ?_, ?_, ?_, fun k hk hki => ?_⟩
        · simp [Z43, e0, encRss]
        · simp [Z43, e1]
        · simp [Z43, encI]
        · by_cases hk2 : k = i
          · subst hk2; exact hb
          · exact hno k hk (by omega)
    · have hI : ¬ (i : Int) < atoms.length := by omega
      have hr : classF atoms c = -1 := by
        unfold classF idxF
        rw [if_neg]
        intro h
        obtain ⟨a, ha, h2⟩ := List.any_eq_true.mp h
        obtain ⟨k, hk, rfl⟩ := List.mem_iff_getElem.mp ha
        rw [hno k hk (by omega)] at h2; cases h2
      simp [Z0h, Z0c, Z0d, Z09, Z0a, Z0i, Z0b, Z0f, Z0g, Z2z, Z2y, Z07, Z08, Z06, Z01, Z02, Z00, Z04, Z05, Z03, Z1z, Z1y, Z46, Z48, Z47, Z45, Z1n, Z1o, Z1m, Z3n, Z3k, Z3m, Z3l, Z3o, Z1l, Z29, Z32, Z3x, Z1i, Z1j, Z1k, Z3v, Z3w, Z1g, Z28, Z1h, Z3i, Z3f, Z3h, Z3g, Z3j, Z41, Z40, Z0t, Z0u, Z0v, Z0s, Z1f, Z4c, Z4b, Z4d, Z4a, Z49, ex, Z43, Z42, ev_t, ev_c, Z27, Z26, Z4e, Z4f, Z2m, Z2l, Z2f, Z2j, Z2k, Z2g, Z2h, Z2i, putc, exBslice, lfill, exField, exIdxV, exIdxP, exBox, exAlloc, exLoad, exStore, exFieldA, exIdxA, exLen, exPick, exUn, exBeq, exMM, exSeq, seqGo, exExt, binV, intOp, subc, AV.solid, S0, encI, encB, e0, e1, e5, encRss, hI, hlt, hr]
      exact FzK_I _ _
def raL (done : List (List Rg)) (size last : Int) : List (List Rg) → Bool
  | [] => size == 1114112
  | a :: rest => if !rightF a || decide (firstF a ≤ last) then false else if done.any (fun b => decide (0 < (andF a b).length)) then false else raL (done ++ [a]) (IntKind.i64.wrap (size + sizeF a)) (firstF a) rest
def rightA (atoms : List (List Rg)) : Bool := decide (1 ≤ atoms.length) && decide (atoms.length ≤ 200) && raL [] 0 (-1) atoms
structure RAC (P : Program) (ff fr fs fa : FuncId) : Prop where
  f : ∀ l, PureC P ff [encRs l] (encI (firstF l))
  r : ∀ l, PureC P fr [encRs l] (encB (rightF l))
  s : ∀ l, PureC P fs [encRs l] (encI (sizeF l))
  a : ∀ a b, PureC P fa [encRs a, encRs b] (encRs (andF a b))
def raJ (atoms : List (List Rg)) (i : Nat) (a : List Rg) (size last : Int) (m : Nat) (f : AF) (S : St) : Prop :=
  ∃ k, k ≤ i ∧ m = i - k ∧ f 0 = encRss atoms ∧ f 3 = encI size ∧ f 4 = encI last ∧ f 5 = encI i ∧ f 7 = encI k ∧ ∀ j (hj : j < atoms.length), j < k → (andF a atoms[j]).length = 0
theorem ra_in {P : Program} {fa : FuncId} (ha : ∀ a b, PureC P fa [encRs a, encRs b] (encRs (andF a b))) {atoms : List (List Rg)} (hl : atoms.length ≤ 200) {i : Nat} (hi : i < atoms.length) {size last : Int} {f : AF} {S : St} {Q : Exit → AF → St → Prop} {R : Bool}
    (h0 : raJ atoms i atoms[i] size last i f S) (hfalse : (atoms.take i).any (fun b => decide (0 < (andF atoms[i] b).length)) = true → ∀ (a : AF) (S : St), RetK [2] (FzK (encB R)) .ret (a.put (some 2) (.v (.bool false))) S)
    (hq : ∀ f' S', f' 0 = encRss atoms → f' 3 = encI size → f' 4 = encI last → f' 5 = encI i → (atoms.take i).any (fun b => decide (0 < (andF atoms[i] b).length)) = false → Q .normal f' S') (hQ : ∀ (a : AF) (S : St), RetK [2] (FzK (encB R)) .ret a S → Q .ret a S) : AW P (c_ra_in fa) Q f S := by
  simp [Z0h, Z0c, Z0d, Z09, Z0a, Z0i, Z0b, Z0f, Z0g, Z2z, Z2y, Z07, Z08, Z06, Z01, Z02, Z00, Z04, Z05, Z03, Z1z, Z1y, Z46, Z48, Z47, Z45, Z1n, Z1o, Z1m, Z3n, Z3k, Z3m, Z3l, Z3o, Z1l, Z29, Z32, Z3x, Z1i, Z1j, Z1k, Z3v, Z3w, Z1g, Z28, Z1h, Z3i, Z3f, Z3h, Z3g, Z3j, Z41, Z40, Z0t, Z0u, Z0v, Z0s, Z1f, Z4c, Z4b, Z4d, Z4a, Z49, ex, Z43, Z42, ev_t, ev_c, Z27, Z26, Z4e, Z4f, Z2m, Z2l, Z2f, Z2j, Z2k, Z2g, Z2h, Z2i, putc, exBslice, lfill, exField, exIdxV, exIdxP, exBox, exAlloc, exLoad, exStore, exFieldA, exIdxA, exLen, exPick, exUn, exBeq, exMM, exSeq, seqGo, exExt, binV, intOp, subc, AV.solid, S0, encI, encB, c_ra_in]
  refine AW_loop (raJ atoms i atoms[i] size last) i h0 ?_
  rintro m f S ⟨k, hk, rfl, e0, e3, e4, e5, e7, hno⟩
  have e0' : f 0 = .sl false (atoms.map encRs) := e0
  have hw : IntKind.i64.wrap ((k : Int) + 1) = (k : Int) + 1 := wrap_in _ (by omega)
  by_cases hlt : k < i
  · have hI : (k : Int) < i := by omega
    have hkl : k < atoms.length := by omega
    have hkI : (k : Int) < atoms.length := by omega
    have hiI : (i : Int) < atoms.length := by omega
    have hgi : atoms[i]? = some atoms[i] := List.getElem?_eq_getElem hi
    have hgk : atoms[k]? = some atoms[k] := List.getElem?_eq_getElem hkl
    have d1 : ∀ n g, CallD P fa [.sl false ((atoms[i]).map encR), .sl false ((atoms[k]).map encR)] ⟨n, g⟩ [] (encRs (andF atoms[i] atoms[k])) := fun n g => CallD.kl (ha atoms[i] atoms[k]) (cl_cons (closed_Rs _) (cl_cons (closed_Rs _) cl_nil)) (closed_Rs _)
    simp [Z0h, Z0c, Z0d, Z09, Z0a, Z0i, Z0b, Z0f, Z0g, Z2z, Z2y, Z07, Z08, Z06, Z01, Z02, Z00, Z04, Z05, Z03, Z1z, Z1y, Z46, Z48, Z47, Z45, Z1n, Z1o, Z1m, Z3n, Z3k, Z3m, Z3l, Z3o, Z1l, Z29, Z32, Z3x, Z1i, Z1j, Z1k, Z3v, Z3w, Z1g, Z28, Z1h, Z3i, Z3f, Z3h, Z3g, Z3j, Z41, Z40, Z0t, Z0u, Z0v, Z0s, Z1f, Z4c, Z4b, Z4d, Z4a, Z49, ex, Z43, Z42, ev_t, ev_c, Z27, Z26, Z4e, Z4f, Z2m, Z2l, Z2f, Z2j, Z2k, Z2g, Z2h, Z2i, putc, exBslice, lfill, exField, exIdxV, exIdxP, exBox, exAlloc, exLoad, exStore, exFieldA, exIdxA, exLen, exPick, exUn, exBeq, exMM, exSeq, seqGo, exExt, binV, intOp, subc, AV.solid, S0, encI, encB, e0', e5, e7, encRs, hI, hlt, hkl, hkI, hi, hiI, hgi, hgk]
    refine ⟨_, ⟨_, d1 _ _⟩, ?_⟩
    by_cases hz : 0 < (andF atoms[i] atoms[k]).length
    · have hzI : (0 : Int) < (andF atoms[i] atoms[k]).length := by omega
      simp [Z0h, Z0c, Z0d, Z09, Z0a, Z0i, Z0b, Z0f, Z0g, Z2z, Z2y, Z07, Z08, Z06, Z01, Z02, Z00, Z04, Z05, Z03, Z1z, Z1y, Z46, Z48, Z47, Z45, Z1n, Z1o, Z1m, Z3n, Z3k, Z3m, Z3l, Z3o, Z1l, Z29, Z32, Z3x, Z1i, Z1j, Z1k, Z3v, Z3w, Z1g, Z28, Z1h, Z3i, Z3f, Z3h, Z3g, Z3j, Z41, Z40, Z0t, Z0u, Z0v, Z0s, Z1f, Z4c, Z4b, Z4d, Z4a, Z49, ex, Z43, Z42, ev_t, ev_c, Z27, Z26, Z4e, Z4f, Z2m, Z2l, Z2f, Z2j, Z2k, Z2g, Z2h, Z2i, putc, exBslice, lfill, exField, exIdxV, exIdxP, exBox, exAlloc, exLoad, exStore, exFieldA, exIdxA, exLen, exPick, exUn, exBeq, exMM, exSeq, seqGo, exExt, binV, intOp, subc, AV.solid, S0, encI, encB, encRs, hz, hzI]
      refine hQ _ _ (hfalse ?_ _ _)
      rw [List.any_eq_true]
      exact ⟨atoms[k], List.mem_take_iff_getElem.mpr ⟨k, by omega, rfl⟩, decide_eq_true hz⟩
    · have hzI : ¬ (0 : Int) < (andF atoms[i] atoms[k]).length := by omega
      simp [Z0h, Z0c, Z0d, Z09, Z0a, Z0i, Z0b, Z0f, Z0g, Z2z, Z2y, Z07, Z08, Z06, Z01, Z02, Z00, Z04, Z05, Z03, Z1z, Z1y, Z46, Z48, Z47, Z45, Z1n, Z1o, Z1m, Z3n, Z3k, Z3m, Z3l, Z3o, Z1l, Z29, Z32, Z3x, Z1i, Z1j, Z1k, Z3v, Z3w, Z1g, Z28, Z1h, Z3i, Z3f, Z3h, Z3g, Z3j, Z41, Z40, Z0t, Z0u, Z0v, Z0s, Z1f, Z4c, Z4b, Z4d, Z4a, Z49, ex, Z43, Z42, ev_t, ev_c, Z27, Z26, Z4e, Z4f, Z2m, Z2l, Z2f, Z2j, Z2k, Z2g, Z2h, Z2i, putc, exBslice, lfill, exField, exIdxV, exIdxP, exBox, exAlloc, exLoad, exStore, exFieldA, exIdxA, exLen, exPick, exUn, exBeq, exMM, exSeq, seqGo, exExt, binV, intOp, subc, AV.solid, S0, encI, encB, encRs, hz, hzI, e7, hw]
      refine ⟨i - (k + 1), by omega, k + 1, by omega, rfl, ?_, ?_, ?_, ?_, ?_, fun j hj hjk => ?_⟩
      · simp [Z43, e0]
      · simp [Z43, e3]
      · simp [Z43, e4]
      · simp [Z43, e5]
      · simp [Z43, encI]
      · by_cases hjk2 : j = k
        · subst hjk2; omega
        · exact hno j hj (by omega)
  · have hI : ¬ (k : Int) < i := by omega
    simp [Z0h, Z0c, Z0d, Z09, Z0a, Z0i, Z0b, Z0f, Z0g, Z2z, Z2y, Z07, Z08, Z06, Z01, Z02, Z00, Z04, Z05, Z03, Z1z, Z1y, Z46, Z48, Z47, Z45, Z1n, Z1o, Z1m, Z3n, Z3k, Z3m, Z3l, Z3o, Z1l, Z29, Z32, Z3x, Z1i, Z1j, Z1k, Z3v, Z3w, Z1g, Z28, Z1h, Z3i, Z3f, Z3h, Z3g, Z3j, Z41, Z40, Z0t, Z0u, Z0v, Z0s, Z1f, Z4c, Z4b, Z4d, Z4a, Z49, ex, Z43, Z42, ev_t, ev_c, Z27, Z26, Z4e, Z4f, Z2m, Z2l, Z2f, Z2j, Z2k, Z2g, Z2h, Z2i, putc, exBslice, lfill, exField, exIdxV, exIdxP, exBox, exAlloc, exLoad, exStore, exFieldA, exIdxA, exLen, exPick, exUn, exBeq, exMM, exSeq, seqGo, exExt, binV, intOp, subc, AV.solid, S0, encI, encB, e0', e5, e7, hI, hlt]
    refine hq _ _ ?_ ?_ ?_ ?_ ?_
    · simp [Z43, e0]
    · simp [Z43, e3]
    · simp [Z43, e4]
    · simp [Z43, e5]
    · rw [List.any_eq_false]
      intro b hb
      obtain ⟨j, hj, rfl⟩ := List.mem_take_iff_getElem.mp hb
      rw [hno j (by omega) (by omega)]; simp
def raI2 (atoms : List (List Rg)) (m : Nat) (f : AF) (S : St) : Prop :=
  ∃ i, i ≤ atoms.length ∧ m = atoms.length - i ∧ f 0 = encRss atoms ∧ f 5 = encI i ∧ ∃ size last : Int, f 3 = encI size ∧ f 4 = encI last ∧ raL (atoms.take i) size last (atoms.drop i) = raL [] 0 (-1) atoms
theorem caesuraref02_Right_body {P : Program} {ff fr fs fa : FuncId} (C : RAC P ff fr fs fa) (atoms : List (List Rg)) : AW P (c_caesuraref02_Right ff fr fs fa) (RetK [2] (FzK (encB (rightA atoms)))) (argF [encRss atoms]) S0 := by
  have el : argF [encRss atoms] = argF [.sl false (atoms.map encRs)] := rfl
  rw [el]
  by_cases h1 : atoms.length < 1
  · have h1' : (atoms.length : Int) < 1 := by omega
    have hr : rightA atoms = false := by unfold rightA; rw [decide_eq_false (by omega : ¬ 1 ≤ atoms.length)]; simp
    simp [Z0h, Z0c, Z0d, Z09, Z0a, Z0i, Z0b, Z0f, Z0g, Z2z, Z2y, Z07, Z08, Z06, Z01, Z02, Z00, Z04, Z05, Z03, Z1z, Z1y, Z46, Z48, Z47, Z45, Z1n, Z1o, Z1m, Z3n, Z3k, Z3m, Z3l, Z3o, Z1l, Z29, Z32, Z3x, Z1i, Z1j, Z1k, Z3v, Z3w, Z1g, Z28, Z1h, Z3i, Z3f, Z3h, Z3g, Z3j, Z41, Z40, Z0t, Z0u, Z0v, Z0s, Z1f, Z4c, Z4b, Z4d, Z4a, Z49, ex, Z43, Z42, ev_t, ev_c, Z27, Z26, Z4e, Z4f, Z2m, Z2l, Z2f, Z2j, Z2k, Z2g, Z2h, Z2i, putc, exBslice, lfill, exField, exIdxV, exIdxP, exBox, exAlloc, exLoad, exStore, exFieldA, exIdxA, exLen, exPick, exUn, exBeq, exMM, exSeq, seqGo, exExt, binV, intOp, subc, AV.solid, S0, encI, encB, c_caesuraref02_Right, h1, h1', hr]
    exact FzK_B _ _
  · have h1' : ¬ (atoms.length : Int) < 1 := by omega
    by_cases h2 : 200 < atoms.length
    · have h2' : (200 : Int) < atoms.length := by omega
      have hr : rightA atoms = false := by unfold rightA; rw [decide_eq_false (by omega : ¬ atoms.length ≤ 200)]; simp
      simp [Z0h, Z0c, Z0d, Z09, Z0a, Z0i, Z0b, Z0f, Z0g, Z2z, Z2y, Z07, Z08, Z06, Z01, Z02, Z00, Z04, Z05, Z03, Z1z, Z1y, Z46, Z48, Z47, Z45, Z1n, Z1o, Z1m, Z3n, Z3k, Z3m, Z3l, Z3o, Z1l, Z29, Z32, Z3x, Z1i, Z1j, Z1k, Z3v, Z3w, Z1g, Z28, Z1h, Z3i, Z3f, Z3h, Z3g, Z3j, Z41, Z40, Z0t, Z0u, Z0v, Z0s, Z1f, Z4c, Z4b, Z4d, Z4a, Z49, ex, Z43, Z42, ev_t, ev_c, Z27, Z26, Z4e, Z4f, Z2m, Z2l, Z2f, Z2j, Z2k, Z2g, Z2h, Z2i, putc, exBslice, lfill, exField, exIdxV, exIdxP, exBox, exAlloc, exLoad, exStore, exFieldA, exIdxA, exLen, exPick, exUn, exBeq, exMM, exSeq, seqGo, exExt, binV, intOp, subc, AV.solid, S0, encI, encB, c_caesuraref02_Right, h1, h1', h2, h2', hr]
      exact FzK_B _ _
    · have h2' : ¬ (200 : Int) < atoms.length := by omega
      have hr : rightA atoms = raL [] 0 (-1) atoms := by unfold rightA; rw [decide_eq_true (by omega : 1 ≤ atoms.length), decide_eq_true (by omega : atoms.length ≤ 200)]; simp
      rw [hr]
      simp [Z0h, Z0c, Z0d, Z09, Z0a, Z0i, Z0b, Z0f, Z0g, Z2z, Z2y, Z07, Z08, Z06, Z01, Z02, Z00, Z04, Z05, Z03, Z1z, Z1y, Z46, Z48, Z47, Z45, Z1n, Z1o, Z1m, Z3n, Z3k, Z3m, Z3l, Z3o, Z1l, Z29, Z32, Z3x, Z1i, Z1j, Z1k, Z3v, Z3w, Z1g, Z28, Z1h, Z3i, Z3f, Z3h, Z3g, Z3j, Z41, Z40, Z0t, Z0u, Z0v, Z0s, Z1f, Z4c, Z4b, Z4d, Z4a, Z49, ex, Z43, Z42, ev_t, ev_c, Z27, Z26, Z4e, Z4f, Z2m, Z2l, Z2f, Z2j, Z2k, Z2g, Z2h, Z2i, putc, exBslice, lfill, exField, exIdxV, exIdxP, exBox, exAlloc, exLoad, exStore, exFieldA, exIdxA, exLen, exPick, exUn, exBeq, exMM, exSeq, seqGo, exExt, binV, intOp, subc, AV.solid, S0, encI, encB, c_caesuraref02_Right, h1, h1', h2, h2', c_ra_out]
      refine AW_loop (raI2 atoms) atoms.length ?_ ?_
      · refine ⟨0, by omega, rfl, ?_, ?_, 0, -1, ?_, ?_, rfl⟩ <;> simp [Z43, Z27, Z26, encI, encRss]
      · rintro m f S ⟨i, hi, rfl, e0, e5, size, last, e3, e4, hg⟩
        have e0' : f 0 = .sl false (atoms.map encRs) := e0
        by_cases hlt : i < atoms.length
        · have hI : (i : Int) < atoms.length := by omega
          have hgi : atoms[i]? = some atoms[i] := List.getElem?_eq_getElem hlt
          rw [List.drop_eq_getElem_cons hlt, raL] at hg
          have cf := C.f atoms[i]
          have cr := C.r atoms[i]
          have cs := C.s atoms[i]
          simp [Z0h, Z0c, Z0d, Z09, Z0a, Z0i, Z0b, Z0f, Z0g, Z2z, Z2y, Z07, Z08, Z06, Z01, Z02, Z00, Z04, Z05, Z03, Z1z, Z1y, Z46, Z48, Z47, Z45, Z1n, Z1o, Z1m, Z3n, Z3k, Z3m, Z3l, Z3o, Z1l, Z29, Z32, Z3x, Z1i, Z1j, Z1k, Z3v, Z3w, Z1g, Z28, Z1h, Z3i, Z3f, Z3h, Z3g, Z3j, Z41, Z40, Z0t, Z0u, Z0v, Z0s, Z1f, Z4c, Z4b, Z4d, Z4a, Z49, ex, Z43, Z42, ev_t, ev_c, Z27, Z26, Z4e, Z4f, Z2m, Z2l, Z2f, Z2j, Z2k, Z2g, Z2h, Z2i, putc, exBslice, lfill, exField, exIdxV, exIdxP, exBox, exAlloc, exLoad, exStore, exFieldA, exIdxA, exLen, exPick, exUn, exBeq, exMM, exSeq, seqGo, exExt, binV, intOp, subc, AV.solid, S0, encI, encB, e0', e5, encRs, hI, hlt, hgi]
          refine CallR.pure cf (cl_cons (closed_Rs _) cl_nil) (Z2r _) ?_
          simp [Z0h, Z0c, Z0d, Z09, Z0a, Z0i, Z0b, Z0f, Z0g, Z2z, Z2y, Z07, Z08, Z06, Z01, Z02, Z00, Z04, Z05, Z03, Z1z, Z1y, Z46, Z48, Z47, Z45, Z1n, Z1o, Z1m, Z3n, Z3k, Z3m, Z3l, Z3o, Z1l, Z29, Z32, Z3x, Z1i, Z1j, Z1k, Z3v, Z3w, Z1g, Z28, Z1h, Z3i, Z3f, Z3h, Z3g, Z3j, Z41, Z40, Z0t, Z0u, Z0v, Z0s, Z1f, Z4c, Z4b, Z4d, Z4a, Z49, ex, Z43, Z42, ev_t, ev_c, Z27, Z26, Z4e, Z4f, Z2m, Z2l, Z2f, Z2j, Z2k, Z2g, Z2h, Z2i, putc, exBslice, lfill, exField, exIdxV, exIdxP, exBox, exAlloc, exLoad, exStore, exFieldA, exIdxA, exLen, exPick, exUn, exBeq, exMM, exSeq, seqGo, exExt, binV, intOp, subc, AV.solid, S0, encI, encB, e0', e5, encRs, hI, hlt, hgi]
          refine CallR.pure cr (cl_cons (closed_Rs _) cl_nil) (Z2o _) ?_
          cases hrf : rightF atoms[i] with
          | false =>
            rw [hrf] at hg
            simp only [Bool.not_false, Bool.true_or, if_true] at hg
            rw [← hg]
            simp [Z0h, Z0c, Z0d, Z09, Z0a, Z0i, Z0b, Z0f, Z0g, Z2z, Z2y, Z07, Z08, Z06, Z01, Z02, Z00, Z04, Z05, Z03, Z1z, Z1y, Z46, Z48, Z47, Z45, Z1n, Z1o, Z1m, Z3n, Z3k, Z3m, Z3l, Z3o, Z1l, Z29, Z32, Z3x, Z1i, Z1j, Z1k, Z3v, Z3w, Z1g, Z28, Z1h, Z3i, Z3f, Z3h, Z3g, Z3j, Z41, Z40, Z0t, Z0u, Z0v, Z0s, Z1f, Z4c, Z4b, Z4d, Z4a, Z49, ex, Z43, Z42, ev_t, ev_c, Z27, Z26, Z4e, Z4f, Z2m, Z2l, Z2f, Z2j, Z2k, Z2g, Z2h, Z2i, putc, exBslice, lfill, exField, exIdxV, exIdxP, exBox, exAlloc, exLoad, exStore, exFieldA, exIdxA, exLen, exPick, exUn, exBeq, exMM, exSeq, seqGo, exExt, binV, intOp, subc, AV.solid, S0, encI, encB]
            exact FzK_B _ _
          | true =>
            by_cases hle : firstF atoms[i] ≤ last
            · rw [hrf, decide_eq_true hle] at hg
              simp only [Bool.or_true, if_true] at hg
              rw [← hg]
              simp [Z0h, Z0c, Z0d, Z09, Z0a, Z0i, Z0b, Z0f, Z0g, Z2z, Z2y, Z07, Z08, Z06, Z01, Z02, Z00, Z04, Z05, Z03, Z1z, Z1y, Z46, Z48, Z47, Z45, Z1n, Z1o, Z1m, Z3n, Z3k, Z3m, Z3l, Z3o, Z1l, Z29, Z32, Z3x, Z1i, Z1j, Z1k, Z3v, Z3w, Z1g, Z28, Z1h, Z3i, Z3f, Z3h, Z3g, Z3j, Z41, Z40, Z0t, Z0u, Z0v, Z0s, Z1f, Z4c, Z4b, Z4d, Z4a, Z49, ex, Z43, Z42, ev_t, ev_c, Z27, Z26, Z4e, Z4f, Z2m, Z2l, Z2f, Z2j, Z2k, Z2g, Z2h, Z2i, putc, exBslice, lfill, exField, exIdxV, exIdxP, exBox, exAlloc, exLoad, exStore, exFieldA, exIdxA, exLen, exPick, exUn, exBeq, exMM, exSeq, seqGo, exExt, binV, intOp, subc, AV.solid, S0, encI, encB, e4, hle]
              exact FzK_B _ _
            · rw [hrf, decide_eq_false hle] at hg
              simp only [Bool.not_true, Bool.or_false, Bool.false_eq_true, if_false] at hg
              simp [Z0h, Z0c, Z0d, Z09, Z0a, Z0i, Z0b, Z0f, Z0g, Z2z, Z2y, Z07, Z08, Z06, Z01, Z02, Z00, Z04, Z05, Z03, Z1z, Z1y, Z46, Z48, Z47, Z45, Z1n, Z1o, Z1m, Z3n, Z3k, Z3m, Z3l, Z3o, Z1l, Z29, Z32, Z3x, Z1i, Z1j, Z1k, Z3v, Z3w, Z1g, Z28, Z1h, Z3i, Z3f, Z3h, Z3g, Z3j, Z41, Z40, Z0t, Z0u, Z0v, Z0s, Z1f, Z4c, Z4b, Z4d, Z4a, Z49, ex, Z43, Z42, ev_t, ev_c, Z27, Z26, Z4e, Z4f, Z2m, Z2l, Z2f, Z2j, Z2k, Z2g, Z2h, Z2i, putc, exBslice, lfill, exField, exIdxV, exIdxP, exBox, exAlloc, exLoad, exStore, exFieldA, exIdxA, exLen, exPick, exUn, exBeq, exMM, exSeq, seqGo, exExt, binV, intOp, subc, AV.solid, S0, encI, encB, e0', e3, e4, e5, encRs, hI, hlt, hgi, hle]
              refine CallR.pure cs (cl_cons (closed_Rs _) cl_nil) (Z2r _) ?_
              simp [Z0h, Z0c, Z0d, Z09, Z0a, Z0i, Z0b, Z0f, Z0g, Z2z, Z2y, Z07, Z08, Z06, Z01, Z02, Z00, Z04, Z05, Z03, Z1z, Z1y, Z46, Z48, Z47, Z45, Z1n, Z1o, Z1m, Z3n, Z3k, Z3m, Z3l, Z3o, Z1l, Z29, Z32, Z3x, Z1i, Z1j, Z1k, Z3v, Z3w, Z1g, Z28, Z1h, Z3i, Z3f, Z3h, Z3g, Z3j, Z41, Z40, Z0t, Z0u, Z0v, Z0s, Z1f, Z4c, Z4b, Z4d, Z4a, Z49, ex, Z43, Z42, ev_t, ev_c, Z27, Z26, Z4e, Z4f, Z2m, Z2l, Z2f, Z2j, Z2k, Z2g, Z2h, Z2i, putc, exBslice, lfill, exField, exIdxV, exIdxP, exBox, exAlloc, exLoad, exStore, exFieldA, exIdxA, exLen, exPick, exUn, exBeq, exMM, exSeq, seqGo, exExt, binV, intOp, subc, AV.solid, S0, encI, encB]
              refine ra_in C.a (by omega) hlt (size := IntKind.i64.wrap (size + sizeF atoms[i])) (last := firstF atoms[i]) (R := raL [] 0 (-1) atoms) ?_ ?_ ?_ ?_
              · refine ⟨0, by omega, rfl, ?_, ?_, ?_, ?_, ?_, fun j _ hj => by omega⟩
                · simp [Z43, e0]
                · simp [Z43, encI]
                · simp [Z43, encI]
                · simp [Z43, e5]
                · simp [Z43, encI]
              · intro hany a S
                rw [hany, if_pos rfl] at hg
                rw [← hg]
                simp [Z0h, Z0c, Z0d, Z09, Z0a, Z0i, Z0b, Z0f, Z0g, Z2z, Z2y, Z07, Z08, Z06, Z01, Z02, Z00, Z04, Z05, Z03, Z1z, Z1y, Z46, Z48, Z47, Z45, Z1n, Z1o, Z1m, Z3n, Z3k, Z3m, Z3l, Z3o, Z1l, Z29, Z32, Z3x, Z1i, Z1j, Z1k, Z3v, Z3w, Z1g, Z28, Z1h, Z3i, Z3f, Z3h, Z3g, Z3j, Z41, Z40, Z0t, Z0u, Z0v, Z0s, Z1f, Z4c, Z4b, Z4d, Z4a, Z49, ex, Z43, Z42, ev_t, ev_c, Z27, Z26, Z4e, Z4f, Z2m, Z2l, Z2f, Z2j, Z2k, Z2g, Z2h, Z2i, putc, exBslice, lfill, exField, exIdxV, exIdxP, exBox, exAlloc, exLoad, exStore, exFieldA, exIdxA, exLen, exPick, exUn, exBeq, exMM, exSeq, seqGo, exExt, binV, intOp, subc, AV.solid, S0, encI, encB]
                exact FzK_B _ _
              · intro f1 S1 q0 q3 q4 q5 hany
                rw [hany] at hg
                simp only [Bool.false_eq_true, if_false] at hg
                simp [Z0h, Z0c, Z0d, Z09, Z0a, Z0i, Z0b, Z0f, Z0g, Z2z, Z2y, Z07, Z08, Z06, Z01, Z02, Z00, Z04, Z05, Z03, Z1z, Z1y, Z46, Z48, Z47, Z45, Z1n, Z1o, Z1m, Z3n, Z3k, Z3m, Z3l, Z3o, Z1l, Z29, Z32, Z3x, Z1i, Z1j, Z1k, Z3v, Z3w, Z1g, Z28, Z1h, Z3i, Z3f, Z3h, Z3g, Z3j, Z41, Z40, Z0t, Z0u, Z0v, Z0s, Z1f, Z4c, Z4b, Z4d, Z4a, Z49, ex, Z43, Z42, ev_t, ev_c, Z27, Z26, Z4e, Z4f, Z2m, Z2l, Z2f, Z2j, Z2k, Z2g, Z2h, Z2i, putc, exBslice, lfill, exField, exIdxV, exIdxP, exBox, exAlloc, exLoad, exStore, exFieldA, exIdxA, exLen, exPick, exUn, exBeq, exMM, exSeq, seqGo, exExt, binV, intOp, subc, AV.solid, S0, encI, encB, q5]
                rw [wrap_in _ (by omega)]
                refine ⟨atoms.length - (i + 1), by omega, i + 1, by omega, rfl, ?_, ?_, IntKind.i64.wrap (size + sizeF atoms[i]), firstF atoms[i], ?_, ?_, ?_⟩
                · simp [Z43, q0]
                · simp [Z43, encI]
                · simp [Z43, q3]
                · simp [Z43, q4]
                · rw [List.take_add_one, hgi]; exact hg
              · intro a S h
                simp [Z0h, Z0c, Z0d, Z09, Z0a, Z0i, Z0b, Z0f, Z0g, Z2z, Z2y, Z07, Z08, Z06, Z01, Z02, Z00, Z04, Z05, Z03, Z1z, Z1y, Z46, Z48, Z47, Z45, Z1n, Z1o, Z1m, Z3n, Z3k, Z3m, Z3l, Z3o, Z1l, Z29, Z32, Z3x, Z1i, Z1j, Z1k, Z3v, Z3w, Z1g, Z28, Z1h, Z3i, Z3f, Z3h, Z3g, Z3j, Z41, Z40, Z0t, Z0u, Z0v, Z0s, Z1f, Z4c, Z4b, Z4d, Z4a, Z49, ex, Z43, Z42, ev_t, ev_c, Z27, Z26, Z4e, Z4f, Z2m, Z2l, Z2f, Z2j, Z2k, Z2g, Z2h, Z2i, putc, exBslice, lfill, exField, exIdxV, exIdxP, exBox, exAlloc, exLoad, exStore, exFieldA, exIdxA, exLen, exPick, exUn, exBeq, exMM, exSeq, seqGo, exExt, binV, intOp, subc, AV.solid, S0, encI, encB]
                exact h
        · have hI : ¬ (i : Int) < atoms.length := by omega
          rw [List.drop_of_length_le (by omega), raL] at hg
          simp [Z0h, Z0c, Z0d, Z09, Z0a, Z0i, Z0b, Z0f, Z0g, Z2z, Z2y, Z07, Z08, Z06, Z01, Z02, Z00, Z04, Z05, Z03, Z1z, Z1y, Z46, Z48, Z47, Z45, Z1n, Z1o, Z1m, Z3n, Z3k, Z3m, Z3l, Z3o, Z1l, Z29, Z32, Z3x, Z1i, Z1j, Z1k, Z3v, Z3w, Z1g, Z28, Z1h, Z3i, Z3f, Z3h, Z3g, Z3j, Z41, Z40, Z0t, Z0u, Z0v, Z0s, Z1f, Z4c, Z4b, Z4d, Z4a, Z49, ex, Z43, Z42, ev_t, ev_c, Z27, Z26, Z4e, Z4f, Z2m, Z2l, Z2f, Z2j, Z2k, Z2g, Z2h, Z2i, putc, exBslice, lfill, exField, exIdxV, exIdxP, exBox, exAlloc, exLoad, exStore, exFieldA, exIdxA, exLen, exPick, exUn, exBeq, exMM, exSeq, seqGo, exExt, binV, intOp, subc, AV.solid, S0, encI, encB, e0', e3, e5, hI, hlt]
          rw [← hg]
          exact FzK_B _ _
end Go.Rf


set_option linter.unusedVariables false
set_option linter.unusedSimpArgs false
namespace Go.Rf
theorem putF_sorted {n : Int} : ∀ {l : List Int}, l.Pairwise (· < ·) → (putF l n).Pairwise (· < ·)
  | [], _ => by simp [putF]
  | x :: l, h => by
    obtain ⟨h1, h2⟩ := List.pairwise_cons.mp h
    simp only [putF]
    split
    · rename_i hx
      refine List.pairwise_cons.mpr ⟨fun y hy => ?_, putF_sorted h2⟩
      rcases mem_putF.mp hy with h3 | h3
      · omega
      · exact h1 y h3
    · split
      · exact h
      · refine List.pairwise_cons.mpr ⟨fun y hy => ?_, h⟩
        rcases List.mem_cons.mp hy with h3 | h3
        · omega
        · have := h1 y h3; omega
theorem edge1_sorted {o : List Int} {r : Rg} (h : o.Pairwise (· < ·)) : (edge1 o r).Pairwise (· < ·) := by
  unfold edge1; split
  · exact putF_sorted h
  · exact h
theorem edge2_sorted {o : List Int} {r : Rg} (h : o.Pairwise (· < ·)) : (edge2 o r).Pairwise (· < ·) := by
  unfold edge2; split
  · exact putF_sorted h
  · exact h
theorem edgeF_sorted : ∀ (l : List Rg) {o : List Int}, o.Pairwise (· < ·) → (l.foldl (fun o r => edge2 (edge1 o r) r) o).Pairwise (· < ·)
  | [], _, h => h
  | r :: l, o, h => by rw [List.foldl_cons]; exact edgeF_sorted l (edge2_sorted (edge1_sorted h))
theorem edgeS_sorted {o : List Int} {l : List Rg} (h : o.Pairwise (· < ·)) : (edgeS o l).Pairwise (· < ·) := by
  unfold edgeS; split
  · exact edgeF_sorted l h
  · exact h
theorem edgesS_sorted : ∀ (l : List (List Rg)) {o : List Int}, o.Pairwise (· < ·) → (l.foldl edgeS o).Pairwise (· < ·)
  | [], _, h => h
  | r :: l, o, h => by rw [List.foldl_cons]; exact edgesS_sorted l (edgeS_sorted h)
theorem edgesF_sorted (sets : List (List Rg)) : (edgesF sets).Pairwise (· < ·) := edgesS_sorted sets (by simp)
theorem edge1_mono {o : List Int} {r : Rg} {x : Int} (h : x ∈ o) : x ∈ edge1 o r := by
  unfold edge1; split
  · exact mem_putF.mpr (.inr h)
  · exact h
theorem edge2_mono {o : List Int} {r : Rg} {x : Int} (h : x ∈ o) : x ∈ edge2 o r := by
  unfold edge2; split
  · exact mem_putF.mpr (.inr h)
  · exact h
theorem edgeF_mono : ∀ (l : List Rg) {o : List Int} {x : Int}, x ∈ o → x ∈ l.foldl (fun o r => edge2 (edge1 o r) r) o
  | [], _, _, h => h
  | r :: l, o, x, h => by rw [List.foldl_cons]; exact edgeF_mono l (edge2_mono (edge1_mono h))
theorem edgeF_has : ∀ (l : List Rg) {o : List Int} {r : Rg}, r ∈ l → (0 ≤ r.low ∧ r.low ≤ 1114111 → r.low ∈ l.foldl (fun o r => edge2 (edge1 o r) r) o) ∧ (-1 ≤ r.high ∧ r.high < 1114111 → r.high + 1 ∈ l.foldl (fun o r => edge2 (edge1 o r) r) o)
  | q :: l, o, r, h => by
    rw [List.foldl_cons]
    rcases List.mem_cons.mp h with rfl | h
    · constructor
      · intro hb
        refine edgeF_mono l (edge2_mono ?_)
        unfold edge1; rw [if_pos hb]; exact mem_putF.mpr (.inl rfl)
      · intro hb
        refine edgeF_mono l ?_
        unfold edge2; rw [if_pos hb]; exact mem_putF.mpr (.inl rfl)
    · exact edgeF_has l h
theorem edgeS_mono {o : List Int} {l : List Rg} {x : Int} (h : x ∈ o) : x ∈ edgeS o l := by
  unfold edgeS; split
  · exact edgeF_mono l h
  · exact h
theorem edgesS_mono : ∀ (l : List (List Rg)) {o : List Int} {x : Int}, x ∈ o → x ∈ l.foldl edgeS o
  | [], _, _, h => h
  | r :: l, o, x, h => by rw [List.foldl_cons]; exact edgesS_mono l (edgeS_mono h)
theorem edgesF_zero (sets : List (List Rg)) : (0 : Int) ∈ edgesF sets := edgesS_mono sets (by simp)
theorem edgesS_has : ∀ (l : List (List Rg)) {o : List Int} {s : List Rg} {r : Rg}, s ∈ l → s.length ≤ 400 → r ∈ s → (0 ≤ r.low ∧ r.low ≤ 1114111 → r.low ∈ l.foldl edgeS o) ∧ (-1 ≤ r.high ∧ r.high < 1114111 → r.high + 1 ∈ l.foldl edgeS o)
  | q :: l, o, s, r, hs, hl, hr => by
    rw [List.foldl_cons]
    rcases List.mem_cons.mp hs with rfl | hs
    · have := edgeF_has s (o := o) hr
      constructor
      · intro hb
        refine edgesS_mono l ?_
        unfold edgeS; rw [if_pos hl]; exact this.1 hb
      · intro hb
        refine edgesS_mono l ?_
        unfold edgeS; rw [if_pos hl]; exact this.2 hb
    · exact edgesS_has l hs hl hr
def bndE (e : List Int) (i : Nat) : Int := if i < e.length then e.getD i 0 else 1114112
theorem toE_bnd {e : List Int} (i : Nat) : toE e i = bndE e (i + 1) - 1 := by
  unfold toE bndE
  split <;> omega
theorem getD_at {e : List Int} {i : Nat} (h : i < e.length) : e.getD i 0 = e[i] := by simp [List.getD_eq_getElem?_getD, List.getElem?_eq_getElem h]
theorem bndE_lt {e : List Int} (hs : e.Pairwise (· < ·)) (hb : ∀ x ∈ e, 0 ≤ x ∧ x ≤ 1114111) {i : Nat} (hi : i < e.length) : e[i] < bndE e (i + 1) := by
  unfold bndE
  split
  · rename_i h
    rw [getD_at h]
    exact List.pairwise_iff_getElem.mp hs i (i + 1) hi h (by omega)
  · have := hb e[i] (List.getElem_mem hi); omega
/-- No edge lies within a piece. -/
theorem piece {e : List Int} (hs : e.Pairwise (· < ·)) {i : Nat} (hi : i < e.length) {x c : Int} (hx : x ∈ e) (h1 : x ≤ c) (h2 : c < bndE e (i + 1)) : x ≤ e[i] := by
  obtain ⟨j, hj, rfl⟩ := List.mem_iff_getElem.mp hx
  rcases Nat.lt_trichotomy j i with h | h | h
  · have := List.pairwise_iff_getElem.mp hs j i hj hi h; omega
  · subst h; omega
  · exfalso
    unfold bndE at h2
    rw [if_pos (by omega), getD_at (by omega)] at h2
    by_cases hji : j = i + 1
    · subst hji; omega
    · have := List.pairwise_iff_getElem.mp hs (i + 1) j (by omega) hj (by omega); omega
theorem piece_has {sets : List (List Rg)} {s : List Rg} (hm : s ∈ sets) {i : Nat} (hi : i < (edgesF sets).length) {c : Int} (h1 : (edgesF sets)[i] ≤ c) (h2 : c < bndE (edgesF sets) (i + 1)) (htop : c ≤ 1114111) : hasR s c = hasR s (edgesF sets)[i] := by
  have hs := edgesF_sorted sets
  have hb := edgesF_b sets
  have hbi := hb _ (List.getElem_mem hi)
  unfold hasR
  rw [decide_eq_true (by omega : 0 ≤ c), decide_eq_true (by omega : c ≤ 1114111), decide_eq_true (by omega : 0 ≤ (edgesF sets)[i]), decide_eq_true (by omega : (edgesF sets)[i] ≤ 1114111)]
  by_cases hl : s.length ≤ 400
  · rw [decide_eq_true hl]
    simp only [Bool.true_and]
    unfold hasIn
    have key : ∀ r ∈ s, inR r c = inR r (edgesF sets)[i] := by
      intro r hr
      have hh := edgesS_has sets (o := [0]) hm hl hr
      have e1 : (r.low ≤ c) = (r.low ≤ (edgesF sets)[i]) := by
        apply propext
        constructor
        · intro h
          by_cases h0 : r.low ≤ 0
          · omega
          · exact piece hs hi (hh.1 ⟨by omega, by omega⟩) h h2
        · intro h; omega
      have e2 : (c ≤ r.high) = ((edgesF sets)[i] ≤ r.high) := by
        apply propext
        constructor
        · intro h; omega
        · intro h
          by_cases hc : c ≤ r.high
          · exact hc
          · have := piece hs hi (hh.2 ⟨by omega, by omega⟩) (c := c) (by omega) h2
            omega
      unfold inR
      simp only [e1, e2]
    rw [Bool.eq_iff_iff, List.any_eq_true, List.any_eq_true]
    constructor
    · rintro ⟨r, hr, h⟩; exact ⟨r, hr, by rw [← key r hr]; exact h⟩
    · rintro ⟨r, hr, h⟩; exact ⟨r, hr, by rw [key r hr]; exact h⟩
  · rw [decide_eq_false hl]; simp
/-! ### rising, apart, and below a bound -/
structure Canon (l : List Rg) (B : Int) : Prop where
  pw : l.Pairwise (fun x y => x.high + 1 < y.low)
  at_ : ∀ r ∈ l, 0 ≤ r.low ∧ r.low ≤ r.high ∧ r.high < B
theorem addR_nil (lo hi : Int) : addR [] lo hi = [⟨lo, hi⟩] := by simp [addR]
theorem addR_snoc (o : List Rg) (r : Rg) (lo hi : Int) : addR (o ++ [r]) lo hi = if r.high + 1 = lo then o ++ [⟨r.low, hi⟩] else o ++ [r] ++ [⟨lo, hi⟩] := by
  have hl : lastR (o ++ [r]) = r := by
    unfold lastR
    simp [List.getD_eq_getElem?_getD]
  unfold addR
  rw [hl]
  by_cases h : r.high + 1 = lo
  · rw [if_pos ⟨by simp, h⟩, if_pos h]
    have : (o ++ [r]).length - 1 = o.length := by simp
    rw [this, List.set_append_right _ _ (by omega)]
    simp
  · rw [if_neg (fun k => h k.2), if_neg h]
theorem addR_canon {out : List Rg} {lo hi : Int} (h : Canon out lo) (h0 : 0 ≤ lo) (h1 : lo ≤ hi) : Canon (addR out lo hi) (hi + 1) ∧ ∀ c, hasIn (addR out lo hi) c = true ↔ hasIn out c = true ∨ (lo ≤ c ∧ c ≤ hi) := by
  rcases List.eq_nil_or_concat out with rfl | ⟨o, r, rfl⟩
  · rw [addR_nil]
    refine ⟨⟨by simp, fun r hr => ?_⟩, fun c => ?_⟩
    · simp at hr; subst hr; exact ⟨h0, h1, by simp only; omega⟩
    · simp [hasIn, inR]
  · rw [List.concat_eq_append] at *
    rw [addR_snoc]
    obtain ⟨p1, p2, p3⟩ := List.pairwise_append.mp h.pw
    have hr := h.at_ r (by simp)
    split
    · rename_i hm
      refine ⟨⟨List.pairwise_append.mpr ⟨p1, by simp, fun x hx y hy => ?_⟩, fun x hx => ?_⟩, fun c => ?_⟩
      · simp at hy; subst hy
        exact p3 x hx r (by simp)
      · rcases List.mem_append.mp hx with hx | hx
        · have := h.at_ x (List.mem_append.mpr (.inl hx)); omega
        · simp at hx; subst hx; simp only; omega
      · simp only [hasIn, List.any_append, List.any_cons, List.any_nil, Bool.or_false, Bool.or_eq_true, inR, Bool.and_eq_true, decide_eq_true_eq]
        constructor
        · rintro (h2 | h2)
          · exact .inl (.inl h2)
          · by_cases hc : c ≤ r.high
            · exact .inl (.inr ⟨h2.1, hc⟩)
            · exact .inr ⟨by omega, h2.2⟩
        · rintro ((h2 | h2) | h2)
          · exact .inl h2
          · exact .inr ⟨h2.1, by omega⟩
          · exact .inr ⟨by omega, h2.2⟩
    · rename_i hm
      refine ⟨⟨List.pairwise_append.mpr ⟨h.pw, by simp, fun x hx y hy => ?_⟩, fun x hx => ?_⟩, fun c => ?_⟩
      · simp at hy; subst hy
        have := h.at_ x hx
        rcases List.mem_append.mp hx with hx | hx
        · have := p3 x hx r (by simp)
          simp only; omega
        · simp at hx; subst hx; simp only; omega
      · rcases List.mem_append.mp hx with hx | hx
        · have := h.at_ x hx; omega
        · simp at hx; subst hx; simp only; omega
      · simp only [hasIn, List.any_append, List.any_cons, List.any_nil, Bool.or_false, Bool.or_eq_true, inR, Bool.and_eq_true, decide_eq_true_eq]
theorem Canon.mono {l : List Rg} {B C : Int} (h : Canon l B) (hb : B ≤ C) : Canon l C := ⟨h.pw, fun r hr => by have := h.at_ r hr; omega⟩
theorem madeAt_inv (a b : List Rg) (kind : Int) : ∀ (i : Nat), i ≤ (edgesF [a, b]).length → Canon (madeAt a b kind (edgesF [a, b]) i) (bndE (edgesF [a, b]) i) ∧
    ∀ c, 0 ≤ c → c ≤ 1114111 → (hasIn (madeAt a b kind (edgesF [a, b]) i) c = true ↔ c < bndE (edgesF [a, b]) i ∧ condK kind (hasR a c) (hasR b c) = false)
  | 0, _ => by
    have hb := edgesF_b [a, b]
    have hz := edgesF_zero [a, b]
    have hs := edgesF_sorted [a, b]
    have h0 : 0 < (edgesF [a, b]).length := List.length_pos_of_mem hz
    have hb0 : bndE (edgesF [a, b]) 0 = 0 := by
      unfold bndE
      rw [if_pos h0, getD_at h0]
      obtain ⟨j, hj, he⟩ := List.mem_iff_getElem.mp hz
      have := hb _ (List.getElem_mem h0)
      by_cases hj0 : j = 0
      · subst hj0; exact he
      · have := List.pairwise_iff_getElem.mp hs 0 j h0 hj (by omega); omega
    refine ⟨⟨by simp [madeAt], by simp [madeAt]⟩, fun c h1 h2 => ?_⟩
    simp only [madeAt, List.range_zero, List.foldl_nil, hasIn, List.any_nil, Bool.false_eq_true, false_iff]
    rw [hb0]; omega
  | i + 1, hi => by
    obtain ⟨h1, h2⟩ := madeAt_inv a b kind i (by omega)
    have hb := edgesF_b [a, b]
    have hs := edgesF_sorted [a, b]
    have hil : i < (edgesF [a, b]).length := by omega
    have hbi : bndE (edgesF [a, b]) i = (edgesF [a, b])[i] := by unfold bndE; rw [if_pos hil, getD_at hil]
    have hlt := bndE_lt hs hb hil
    have h0 := (hb _ (List.getElem_mem hil)).1
    rw [hbi] at h1
    have hto : toE (edgesF [a, b]) i = bndE (edgesF [a, b]) (i + 1) - 1 := toE_bnd i
    rw [madeAt_succ]
    unfold made1
    rw [getD_at hil]
    have pa := fun c (k1 : (edgesF [a, b])[i] ≤ c) (k2 : c < bndE (edgesF [a, b]) (i + 1)) (k3 : c ≤ 1114111) => piece_has (sets := [a, b]) (s := a) (by simp) hil k1 k2 k3
    have pb := fun c (k1 : (edgesF [a, b])[i] ≤ c) (k2 : c < bndE (edgesF [a, b]) (i + 1)) (k3 : c ≤ 1114111) => piece_has (sets := [a, b]) (s := b) (by simp) hil k1 k2 k3
    split
    · rename_i hc
      refine ⟨h1.mono (by omega), fun c k1 k2 => ?_⟩
      rw [h2 c k1 k2, hbi]
      constructor
      · rintro ⟨q1, q2⟩; exact ⟨by omega, q2⟩
      · rintro ⟨q1, q2⟩
        refine ⟨?_, q2⟩
        by_cases hlt2 : c < (edgesF [a, b])[i]
        · exact hlt2
        · rw [pa c (by omega) q1 k2, pb c (by omega) q1 k2, hc] at q2
          cases q2
    · rename_i hc
      simp only [Bool.not_eq_true] at hc
      obtain ⟨g1, g2⟩ := addR_canon h1 h0 (hi := toE (edgesF [a, b]) i) (by omega)
      have hb1 : toE (edgesF [a, b]) i + 1 = bndE (edgesF [a, b]) (i + 1) := by omega
      rw [hb1] at g1
      refine ⟨g1, fun c k1 k2 => ?_⟩
      rw [g2 c, h2 c k1 k2, hbi]
      constructor
      · rintro (⟨q1, q2⟩ | ⟨q1, q2⟩)
        · exact ⟨by omega, q2⟩
        · refine ⟨by omega, ?_⟩
          rw [pa c q1 (by omega) k2, pb c q1 (by omega) k2]; exact hc
      · rintro ⟨q1, q2⟩
        by_cases hlt2 : c < (edgesF [a, b])[i]
        · exact .inl ⟨hlt2, q2⟩
        · exact .inr ⟨by omega, by omega⟩
theorem madeF_at (a b : List Rg) (kind : Int) : madeF a b kind = madeAt a b kind (edgesF [a, b]) (edgesF [a, b]).length := rfl
theorem madeF_inv (a b : List Rg) (kind : Int) : Canon (madeF a b kind) 1114112 ∧ ∀ c, 0 ≤ c → c ≤ 1114111 → (hasIn (madeF a b kind) c = true ↔ condK kind (hasR a c) (hasR b c) = false) := by
  obtain ⟨h1, h2⟩ := madeAt_inv a b kind _ (Nat.le_refl (edgesF [a, b]).length)
  have hb : bndE (edgesF [a, b]) (edgesF [a, b]).length = 1114112 := by unfold bndE; rw [if_neg (by omega)]
  rw [hb] at h1 h2
  rw [madeF_at]
  exact ⟨h1, fun c k1 k2 => by rw [h2 c k1 k2]; exact ⟨fun q => q.2, fun q => ⟨by omega, q⟩⟩⟩
theorem andF_none {a b : List Rg} (h : (andF a b).length = 0) (c : Int) : ¬ (hasR a c = true ∧ hasR b c = true) := by
  rintro ⟨h1, h2⟩
  have hc : 0 ≤ c ∧ c ≤ 1114111 := by unfold hasR at h1; simp only [Bool.and_eq_true, decide_eq_true_eq] at h1; omega
  have := (madeF_inv a b 1).2 c hc.1 hc.2
  rw [h1, h2] at this
  have he : madeF a b 1 = [] := List.length_eq_zero_iff.mp h
  rw [he] at this
  simp [hasIn, condK] at this
theorem rightF_canon {a : List Rg} (h : rightF a = true) : a.length ≤ 400 ∧ plainF a = a ∧ Canon a 1114112 := by
  unfold rightF at h
  simp only [Bool.and_eq_true, decide_eq_true_eq] at h
  refine ⟨h.1, h.2, ?_⟩
  have := (madeF_inv a [] 0).1
  have e : madeF a [] 0 = a := h.2
  rw [e] at this; exact this
/-- What is right: each is rising, none has another one's. -/
structure RightP (atoms : List (List Rg)) : Prop where
  len : atoms.length ≤ 200
  ok : ∀ a ∈ atoms, a.length ≤ 400 ∧ a ≠ [] ∧ Canon a 1114112
  dis : ∀ j k (hj : j < atoms.length) (hk : k < atoms.length), j < k → ∀ c, ¬ (hasR atoms[k] c = true ∧ hasR atoms[j] c = true)
theorem raL_spec : ∀ (rest done : List (List Rg)) (size last : Int), -1 ≤ last → raL done size last rest = true → (∀ a ∈ rest, rightF a = true ∧ -1 < firstF a) ∧ ∀ k (hk : k < rest.length), ∀ b ∈ done ++ rest.take k, (andF rest[k] b).length = 0
  | [], _, _, _, _, _ => ⟨by simp, fun k hk => by simp at hk⟩
  | a :: rest, done, size, last, hlast, h => by
    rw [raL] at h
    split at h
    · cases h
    · rename_i h1
      split at h
      · cases h
      · rename_i h2
        simp only [Bool.or_eq_true, Bool.not_eq_true', decide_eq_true_eq, not_or, Bool.not_eq_false] at h1
        obtain ⟨g1, g2⟩ := raL_spec rest _ _ _ (by omega) h
        refine ⟨fun x hx => ?_, fun k hk b hb => ?_⟩
        · rcases List.mem_cons.mp hx with rfl | hx
          · exact ⟨h1.1, by omega⟩
          · exact g1 x hx
        · cases k with
          | zero =>
            simp only [List.take_zero, List.append_nil] at hb
            simp only [Bool.not_eq_true, List.any_eq_false, decide_eq_true_eq] at h2
            have := h2 b hb
            simp only [List.getElem_cons_zero]; omega
          | succ k =>
            have := g2 k (by simpa using hk) b (by simpa [List.take_succ_cons] using hb)
            simpa using this
theorem rightA_P {atoms : List (List Rg)} (h : rightA atoms = true) : RightP atoms := by
  unfold rightA at h
  simp only [Bool.and_eq_true, decide_eq_true_eq] at h
  obtain ⟨g1, g2⟩ := raL_spec atoms [] 0 (-1) (by omega) h.2
  refine ⟨h.1.2, fun a ha => ?_, fun j k hj hk hjk c => ?_⟩
  · obtain ⟨q1, q2⟩ := g1 a ha
    obtain ⟨q3, q4, q5⟩ := rightF_canon q1
    refine ⟨q3, fun e => ?_, q5⟩
    unfold firstF at q2
    rw [q4, e] at q2
    simp at q2
  · have := g2 k hk atoms[j] (by simp only [List.nil_append]; exact List.mem_take_iff_getElem.mpr ⟨j, by omega, rfl⟩)
    exact andF_none this c
end Go.Rf

