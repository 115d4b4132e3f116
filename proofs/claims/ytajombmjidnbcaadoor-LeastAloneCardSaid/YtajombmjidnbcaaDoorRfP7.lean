import Derived.Test.YtajombmjidnbcaaDoorRfP5
/- Own work: which states are come to; whether nothing is accepted (the document's). -/
set_option linter.unusedVariables false
set_option linter.unusedSimpArgs false
namespace Go.Rf
open Go.RowKit
def c_rq_row : AC :=
  (.block 2 (.loop (.seq (.seq (.reg none [
        ⟨(some 21), .mv (.t 6), none, none⟩,
        ⟨(some 22), .fieldA 0 (.t 1), none, none⟩,
        ⟨(some 23), .load none (.t 22), none, none⟩,
        ⟨(some 24), .bin .lss (.t 21) (.t 23), none, none⟩])
       (.cond (.t 24) .skip (.exit 2)))
       (.seq (.block 3 (.seq (.reg (some []) [
         ⟨(some 27), .fieldA 1 (.t 1), none, none⟩,
         ⟨(some 28), .load none (.t 27), none, none⟩,
         ⟨(some 29), .mv (.t 4), none, none⟩,
         ⟨(some 30), .mv (.t 5), none, none⟩,
         ⟨(some 31), .idxA 1 (.t 29) (.t 30), none, none⟩,
         ⟨(some 32), .load none (.t 31), none, none⟩,
         ⟨(some 33), .idxA 1 (.t 28) (.t 32), none, none⟩,
         ⟨(some 34), .load none (.t 33), none, none⟩,
         ⟨(some 35), .mv (.t 6), none, none⟩,
         ⟨(some 36), .idxA 1 (.t 34) (.t 35), none, none⟩,
         ⟨(some 37), .load none (.t 36), none, none⟩,
         ⟨(some 7), .mv (.t 37), none, none⟩])
        (.seq (.reg none [
         ⟨(some 38), .mv (.t 3), none, none⟩,
         ⟨(some 39), .mv (.t 7), none, none⟩,
         ⟨(some 40), .idxA 1 (.t 38) (.t 39), none, none⟩,
         ⟨(some 41), .load none (.t 40), none, none⟩,
         ⟨(some 42), .un .not (.t 41), none, none⟩])
        (.cond (.t 42) (.seq (.reg none [
          ⟨(some 43), .mv (.t 3), none, none⟩,
          ⟨(some 44), .mv (.t 7), none, none⟩,
          ⟨(some 45), .idxA 1 (.t 43) (.t 44), none, none⟩,
          ⟨none, .store 1 (.t 45) (.c (.v (.bool true))), none, none⟩])
         (.reg none [
          ⟨(some 46), .mv (.t 4), none, none⟩,
          ⟨(some 47), .mv (.t 7), none, none⟩,
          ⟨(some 48), .bslice 1 1 (.v (.int .i64 0)) [(0, (.t 47))], none, none⟩,
          ⟨(some 49), .app 1 8 (.t 46) (.t 48), none, none⟩,
          ⟨(some 4), .mv (.t 49), none, none⟩])) .skip))))
       (.reg none [
        ⟨(some 25), .mv (.t 6), none, none⟩,
        ⟨(some 26), .bin .add (.t 25) (.c (.v (.int .i64 1))), none, none⟩,
        ⟨(some 6), .mv (.t 26), none, none⟩])))))
def c_rq_out : AC :=
  (.block 0 (.loop (.seq (.seq (.reg none [
     ⟨(some 15), .mv (.t 5), none, none⟩,
     ⟨(some 16), .mv (.t 4), none, none⟩,
     ⟨(some 17), .len (.t 16), none, none⟩,
     ⟨(some 18), .bin .lss (.t 15) (.t 17), none, none⟩])
    (.cond (.t 18) .skip (.exit 0)))
    (.seq (.block 1 (.seq (.reg none [
      ⟨(some 6), .mv (.c (.v (.int .i64 0))), none, none⟩])
     c_rq_row))
    (.reg none [
     ⟨(some 19), .mv (.t 5), none, none⟩,
     ⟨(some 20), .bin .add (.t 19) (.c (.v (.int .i64 1))), none, none⟩,
     ⟨(some 5), .mv (.t 20), none, none⟩])))))
def c_caesuraref16_Reached : AC :=
  (.seq (.reg none [
   ⟨(some 1), .box 3 (.t 0), none, none⟩,
   ⟨(some 2), .mv (.c (.sl true [])), none, none⟩])
  (.seq (.reg none [
   ⟨(some 8), .fieldA 1 (.t 1), none, none⟩,
   ⟨(some 9), .load none (.t 8), none, none⟩,
   ⟨(some 10), .len (.t 9), none, none⟩,
   ⟨(some 11), .mks 1 1 (.v (.bool false)) (.t 10) (.t 10), none, none⟩,
   ⟨(some 3), .mv (.t 11), none, none⟩])
  (.seq (.reg none [
   ⟨(some 12), .bslice 1 1 (.v (.int .i64 0)) [(0, (.c (.v (.int .i64 0))))], none, none⟩,
   ⟨(some 4), .mv (.t 12), none, none⟩])
  (.seq (.reg none [
   ⟨(some 13), .mv (.t 3), none, none⟩,
   ⟨(some 14), .idxA 1 (.t 13) (.c (.v (.int .i64 0))), none, none⟩,
   ⟨none, .store 1 (.t 14) (.c (.v (.bool true))), none, none⟩])
  (.seq (.seq (.reg none [
   ⟨(some 5), .mv (.c (.v (.int .i64 0))), none, none⟩])
  c_rq_out)
  (.seq (.reg none [
   ⟨(some 50), .mv (.t 3), none, none⟩,
   ⟨(some 2), .mv (.t 50), none, none⟩])
  .ret))))))
def c_caesuraref16_Empty (f_caesuraref15_Right f_caesuraref16_Reached : FuncId) : AC :=
  (.seq (.reg none [
   ⟨(some 1), .box 3 (.t 0), none, none⟩,
   ⟨(some 2), .mv (.c (.v (.bool false))), none, none⟩])
  (.seq (.seq (.reg none [
   ⟨(some 5), .load (some 3) (.t 1), none, none⟩,
   ⟨(some 6), .mv (.c .junk), none, (some ((.c (.clo f_caesuraref15_Right [] [])), [(.t 5)]))⟩,
   ⟨(some 7), .un .not (.t 6), none, none⟩])
  (.cond (.t 7) (.seq (.reg none [
    ⟨(some 2), .mv (.c (.v (.bool false))), none, none⟩])
   .ret) .skip))
  (.seq (.reg none [
   ⟨(some 8), .load (some 3) (.t 1), none, none⟩,
   ⟨(some 9), .mv (.c .junk), none, (some ((.c (.clo f_caesuraref16_Reached [] [])), [(.t 8)]))⟩,
   ⟨(some 3), .mv (.t 9), none, none⟩])
  (.seq (.seq (.reg none [
   ⟨(some 4), .mv (.c (.v (.int .i64 0))), none, none⟩])
  (.block 0 (.loop (.seq (.seq (.reg none [
     ⟨(some 10), .mv (.t 4), none, none⟩,
     ⟨(some 11), .mv (.t 3), none, none⟩,
     ⟨(some 12), .len (.t 11), none, none⟩,
     ⟨(some 13), .bin .lss (.t 10) (.t 12), none, none⟩])
    (.cond (.t 13) .skip (.exit 0)))
    (.seq (.block 1 (.seq (.reg none [
      ⟨(some 16), .mv (.t 3), none, none⟩,
      ⟨(some 17), .mv (.t 4), none, none⟩,
      ⟨(some 18), .idxA 1 (.t 16) (.t 17), none, none⟩,
      ⟨(some 19), .load none (.t 18), none, none⟩,
      ⟨(some 20), .mv (.t 19), none, none⟩,
      ⟨(some 21), .fieldA 2 (.t 1), (some (20, true)), none⟩,
      ⟨(some 22), .load none (.t 21), (some (20, true)), none⟩,
      ⟨(some 23), .mv (.t 4), (some (20, true)), none⟩,
      ⟨(some 24), .idxA 1 (.t 22) (.t 23), (some (20, true)), none⟩,
      ⟨(some 25), .load none (.t 24), (some (20, true)), none⟩,
      ⟨(some 26), .pick (.t 20) (.t 25) (.c (.v (.bool false))), none, none⟩])
     (.cond (.t 26) (.seq (.reg none [
       ⟨(some 2), .mv (.c (.v (.bool false))), none, none⟩])
      .ret) .skip)))
    (.reg none [
     ⟨(some 14), .mv (.t 4), none, none⟩,
     ⟨(some 15), .bin .add (.t 14) (.c (.v (.int .i64 1))), none, none⟩,
     ⟨(some 4), .mv (.t 15), none, none⟩]))))))
  (.seq (.reg none [
   ⟨(some 2), .mv (.c (.v (.bool true))), none, none⟩])
  .ret)))))
def Rch (d : Det) (x : Nat) : Prop := ∃ l, Vl d l ∧ runT d 0 l = x
noncomputable def reachB (d : Det) : List Bool := (List.range d.next.length).map fun x => @decide (Rch d x) (Classical.propDecidable _)
theorem reachB_len (d : Det) : (reachB d).length = d.next.length := by simp [reachB]
theorem reachB_get (d : Det) {x : Nat} (h : x < d.next.length) : (reachB d).getD x false = true ↔ Rch d x := by
  simp [reachB, List.getD_eq_getElem?_getD, h]
theorem runT_snoc (d : Det) (i : Nat) (l : List Int) (s : Int) : runT d i (l ++ [s]) = stepD d (runT d i l) s := by simp [runT]
theorem Rch.step {d : Det} {x : Nat} (h : Rch d x) {s : Int} (h0 : 0 ≤ s) (hs : s < d.signs) : Rch d (stepD d x s) := by
  obtain ⟨l, h1, rfl⟩ := h
  refine ⟨l ++ [s], fun y hy => ?_, runT_snoc _ _ _ _⟩
  rcases List.mem_append.mp hy with hy | hy
  · exact h1 y hy
  · rw [List.mem_singleton] at hy; subst hy; exact ⟨h0, hs⟩
structure RqOk (d : Det) (L : List Nat) (met : List Bool) : Prop where
  len : met.length = d.next.length
  mem : ∀ x, x < d.next.length → (met.getD x false = true ↔ x ∈ L)
  nd : L.Nodup
  lt : ∀ x ∈ L, x < d.next.length
  rch : ∀ x ∈ L, Rch d x
  zero : 0 ∈ L
theorem RqOk.le {d : Det} {L : List Nat} {met : List Bool} (h : RqOk d L met) : L.length ≤ d.next.length := nodup_le _ _ h.nd h.lt
theorem RqOk.add {d : Det} {L : List Nat} {met : List Bool} (h : RqOk d L met) {t : Nat} (ht : t < d.next.length) (hm : met.getD t false = false) (hr : Rch d t) : RqOk d (L ++ [t]) (met.set t true) := by
  have hn : t ∉ L := fun hx => by rw [(h.mem t ht).mpr hx] at hm; cases hm
  refine ⟨by simpa using h.len, fun x hx => ?_, ?_, fun x hx => ?_, fun x hx => ?_, List.mem_append_left _ h.zero⟩
  · rw [List.getD_eq_getElem?_getD, List.getElem?_set]
    by_cases e : t = x
    · subst e
      rw [if_pos rfl, if_pos (by rw [h.len]; exact ht)]
      simp
    · rw [if_neg e, ← List.getD_eq_getElem?_getD, h.mem x hx]
      simp only [List.mem_append, List.mem_singleton]
      exact ⟨.inl, fun h => h.elim id fun e2 => (e e2.symm).elim⟩
  · rw [List.nodup_append]
    exact ⟨h.nd, by simp, fun a ha b hb => by simp at hb; subst hb; rintro rfl; exact hn ha⟩
  · rcases List.mem_append.mp hx with hx | hx
    · exact h.lt x hx
    · rw [List.mem_singleton] at hx; subst hx; exact ht
  · rcases List.mem_append.mp hx with hx | hx
    · exact h.rch x hx
    · rw [List.mem_singleton] at hx; subst hx; exact hr
theorem RqOk.done {d : Det} (R : RightD d) {L : List Nat} {met : List Bool} (h : RqOk d L met) (hc : ∀ q ∈ L, ∀ s : Nat, (s : Int) < d.signs → stepD d q s ∈ L) : met = reachB d := by
  have key : ∀ l : List Int, Vl d l → ∀ q ∈ L, runT d q l ∈ L := by
    intro l
    induction l with
    | nil => intro _ q hq; exact hq
    | cons s l ih =>
      intro hv q hq
      have hs := hv s (by simp)
      have := hc q hq s.toNat (by omega)
      have e : ((s.toNat : Nat) : Int) = s := by omega
      rw [e] at this
      exact ih (fun x hx => hv x (by simp [hx])) _ this
  apply List.ext_getElem
  · rw [h.len, reachB_len]
  · intro x h1 h2
    have hx : x < d.next.length := by rw [← h.len]; exact h1
    have e1 : met[x] = met.getD x false := by rw [List.getD_eq_getElem?_getD, List.getElem?_eq_getElem h1]; rfl
    have e2 : (reachB d)[x] = (reachB d).getD x false := by rw [List.getD_eq_getElem?_getD, List.getElem?_eq_getElem h2]; rfl
    rw [e1, e2]
    have i1 := h.mem x hx
    have i2 := reachB_get d hx
    have : met.getD x false = true ↔ (reachB d).getD x false = true := by
      rw [i1, i2]
      constructor
      · exact h.rch x
      · rintro ⟨l, hl, rfl⟩
        exact key l hl 0 h.zero
    cases hA : met.getD x false <;> cases hB : (reachB d).getD x false <;> simp_all
abbrev RqS := (List Nat × List Bool) × Bool
def rqI (d : Det) (i : Nat) (s : RqS) : Prop := RqOk d s.1.1 s.1.2 ∧ i ≤ s.1.1.length ∧ ∀ j q, j < i → s.1.1[j]? = some q → ∀ t : Nat, (t : Int) < d.signs → stepD d q t ∈ s.1.1
def rqA (d : Det) (i : Nat) (s : RqS) : List (Nat × AV) := [(1, .ptr 0 0 0), (3, .own 2 0 d.next.length), (4, vV s.2 3 ((natI s.1.1).map encI)), (5, encI i)]
def rqG (d : Det) (_ : Nat) (s : RqS) : List (Nat × Option Blk) := [(0, some (.arr 3 [encDet d])), (2, some (.arr 1 (s.1.2.map encB))), (3, vB s.2 1 ((natI s.1.1).map encI))]
def rwI (d : Det) (i q : Nat) (k : Nat) (s : RqS) : Prop := rqI d i s ∧ s.1.1[i]? = some q ∧ ∀ t : Nat, t < k → stepD d q t ∈ s.1.1
def rwA (d : Det) (i : Nat) (k : Nat) (s : RqS) : List (Nat × AV) := (6, encI k) :: rqA d i s
theorem RenL_setB {gF : Nat → Option Blk} {R : Nat → Nat → Prop} (l : List Bool) (k : Nat) (v : Bool) : RenL gF R ((List.map encB l).set k (.v (.bool v))) ((List.map encB l).set k (.v (.bool v))) := by
  have : (List.map encB l).set k (.v (.bool v)) = List.map encB (l.set k v) := by rw [List.map_set]; rfl
  rw [this]; exact RenL.cl (Z18 _)
theorem Reached_body {P : Program} {d : Det} (R : RightD d) : AWb P 0 c_caesuraref16_Reached (RetK [2] (FzK (encBs (reachB d)))) (argF [encDet d]) S0 := by
  have hn1 := R.n1
  have hn2 := R.n2
  have hs1 := R.s1
  have hs2 := R.s2
  have q1 : (d.next.length : Int) ≤ 281474976710656 := by omega
  have q2 : (d.next.length : Int) ≤ 9223372036854775807 := by omega
  have q3 : 0 < d.next.length := by omega
  simp [AWb_seq, Z0m, Z0n, Z0j, Z0k, Z0r, Z0l, Z0p, Z0q, Z0o, Z21, Z20, Z22, Z23, Z3d, Z3e, Z3a, vIdx, Z4x, Z4w, Z4y, vApp, Z4u, Z3u, Z11, Z10, Z0z, Z0x, Z0w, Z0y, Z17, Z16, Z15, Z13, Z12, Z14, Z2c, Z2d, Z2a, Z2n, Z31, Z30, Z07, Z08, Z06, Z01, Z02, Z00, Z04, Z05, Z03, Z1z, Z1y, Z46, Z48, Z47, Z45, Z1n, Z1o, Z1m, Z3n, Z3k, Z3m, Z3l, Z3o, Z1l, Z29, Z32, Z3x, Z1i, Z1j, Z1k, Z3v, Z3w, Z1g, Z28, Z1h, Z3i, Z3f, Z3h, Z3g, Z3j, Z41, Z40, Z0t, Z0u, Z0v, Z0s, Z1f, Z4c, Z4b, Z4d, Z4a, Z49, ex, Z43, Z42, ev_t, ev_c, Z27, Z26, Z4e, Z4f, Z2m, Z2l, Z2f, Z2j, Z2k, Z2g, Z2h, Z2i, putc, exBslice, lfill, exField, exIdxV, exIdxP, exBox, exAlloc, Z3b, Z3c, exStore, exFieldA, Z34, Z33, Z39, Z38, exPick, exUn, exBeq, exMM, exSeq, seqGo, exExt, binV, intOp, subc, Z4s, Z4r, Z4p, Z4q, Z4n, Z4l, Z4m, Z4o, Z4i, Z4j, Z4g, Z4t, S0, encI, encB, Z4k, Z2e, Z25, Z4h, Z2b, Z24, Z36, Z37, Z35, Z3s, Z3t, Z3r, Z3p, Z3q, idxT_Bs, c_caesuraref16_Reached, exMks, q1, q2, q3, c_rq_out]
  refine AWb_for d.next.length (rqI d) (rqA d) 10 (rqG d) (([0], (List.replicate d.next.length false).set 0 true), false) ⟨⟨by simp, fun x hx => ?_, by simp, fun x hx => by simp at hx; omega, fun x hx => ?_, by simp⟩, by simp, fun j q hj => by omega⟩ ?_ ?_
  · rw [List.getD_eq_getElem?_getD, List.getElem?_set]
    by_cases e : 0 = x
    · subst e; rw [if_pos rfl, if_pos (by rw [List.length_replicate]; exact hx)]; simp
    · rw [if_neg e]
      have : x ∉ [0] := by simp; omega
      simp [this, hx]
  · rw [List.mem_singleton] at hx; subst hx; exact ⟨[], fun s hs => by simp at hs, rfl⟩
  · refine Abs.of [(0, 0), (2, 5)] [] (by omega) ⟨by simp, by simp⟩ ?_ ?_
    · simp [RenL_snoc, RenL.cl, RenV.cl, Z2r, Z2o, Z2s, Z2t, Z2p, Z2v, Z2u, Z2q, Z2w, Z2x, Z1d, Z1c, Z1b, Z19, Z18, Z1a, Z1e, Z52, Z4v, Z4z, Z3y, Z51, Z50, Z3z, Z1p, Z1q, Z1x, Z1v, Z1w, Z1u, Z1t, Z1s, Z1r, Z44, Z43, Z42, Z4e, Z4f, Z22, Z23, Z3d, Z3e, Z27, Z26, vV_t, vV_f, vB_t, vB_f, encI, encB, rqG, closed_Det]
      simpa [encB] using RenL_setB (List.replicate d.next.length false) 0 true
    · simp [RenL_snoc, RenL.cl, RenV.cl, Z2r, Z2o, Z2s, Z2t, Z2p, Z2v, Z2u, Z2q, Z2w, Z2x, Z1d, Z1c, Z1b, Z19, Z18, Z1a, Z1e, Z52, Z4v, Z4z, Z3y, Z51, Z50, Z3z, Z1p, Z1q, Z1x, Z1v, Z1w, Z1u, Z1t, Z1s, Z1r, Z44, Z43, Z42, Z4e, Z4f, Z22, Z23, Z3d, Z3e, Z27, Z26, vV_t, vV_f, vB_t, vB_f, encI, encB, rqA, natI]
      exact .cl (.sl _ _ (cl_cons (Z2r _) cl_nil))
  · rintro i ⟨⟨L, met⟩, o⟩ hi ⟨ok, hiL, hdone⟩
    simp only at ok hiL hdone
    have hle := ok.le
    have hml := ok.len
    by_cases hlt : i < L.length
    · obtain ⟨q, hq⟩ : ∃ q, L[i]? = some q := ⟨_, List.getElem?_eq_getElem hlt⟩
      have hqm : q ∈ L := by obtain ⟨h1, h2⟩ := List.getElem?_eq_some_iff.mp hq; rw [← h2]; exact List.getElem_mem h1
      have hqn := ok.lt q hqm
      have hoI : (i : Int) < (natI L).length := by rw [natI_len]; omega
      simp [AWb_seq, Z0m, Z0n, Z0j, Z0k, Z0r, Z0l, Z0p, Z0q, Z0o, Z21, Z20, Z22, Z23, Z3d, Z3e, Z3a, vIdx, Z4x, Z4w, Z4y, vApp, Z4u, Z3u, Z11, Z10, Z0z, Z0x, Z0w, Z0y, Z17, Z16, Z15, Z13, Z12, Z14, Z2c, Z2d, Z2a, Z2n, Z31, Z30, Z07, Z08, Z06, Z01, Z02, Z00, Z04, Z05, Z03, Z1z, Z1y, Z46, Z48, Z47, Z45, Z1n, Z1o, Z1m, Z3n, Z3k, Z3m, Z3l, Z3o, Z1l, Z29, Z32, Z3x, Z1i, Z1j, Z1k, Z3v, Z3w, Z1g, Z28, Z1h, Z3i, Z3f, Z3h, Z3g, Z3j, Z41, Z40, Z0t, Z0u, Z0v, Z0s, Z1f, Z4c, Z4b, Z4d, Z4a, Z49, ex, Z43, Z42, ev_t, ev_c, Z27, Z26, Z4e, Z4f, Z2m, Z2l, Z2f, Z2j, Z2k, Z2g, Z2h, Z2i, putc, exBslice, lfill, exField, exIdxV, exIdxP, exBox, exAlloc, Z3b, Z3c, exStore, exFieldA, Z34, Z33, Z39, Z38, exPick, exUn, exBeq, exMM, exSeq, seqGo, exExt, binV, intOp, subc, Z4s, Z4r, Z4p, Z4q, Z4n, Z4l, Z4m, Z4o, Z4i, Z4j, Z4g, Z4t, S0, encI, encB, Z4k, Z2e, Z25, Z4h, Z2b, Z24, Z36, Z37, Z35, Z3s, Z3t, Z3r, Z3p, Z3q, idxT_Bs, rqA, rqG, hoI, c_rq_row]
      refine AWb_for d.signs.toNat (rwI d i q) (rwA d i) 10 (rqG d) ((L, met), o) ⟨⟨ok, hiL, hdone⟩, hq, fun t h => by omega⟩ ?_ ?_
      · refine Abs.of [(0, 0), (2, 2), (3, 3)] [] (by omega) ⟨by simp, by simp⟩ ?_ ?_
        · simp [RenL_snoc, RenL.cl, RenV.cl, Z2r, Z2o, Z2s, Z2t, Z2p, Z2v, Z2u, Z2q, Z2w, Z2x, Z1d, Z1c, Z1b, Z19, Z18, Z1a, Z1e, Z52, Z4v, Z4z, Z3y, Z51, Z50, Z3z, Z1p, Z1q, Z1x, Z1v, Z1w, Z1u, Z1t, Z1s, Z1r, Z44, Z43, Z42, Z4e, Z4f, Z22, Z23, Z3d, Z3e, Z27, Z26, vV_t, vV_f, vB_t, vB_f, encI, encB, rqG, closed_Det]
        · simp [RenL_snoc, RenL.cl, RenV.cl, Z2r, Z2o, Z2s, Z2t, Z2p, Z2v, Z2u, Z2q, Z2w, Z2x, Z1d, Z1c, Z1b, Z19, Z18, Z1a, Z1e, Z52, Z4v, Z4z, Z3y, Z51, Z50, Z3z, Z1p, Z1q, Z1x, Z1v, Z1w, Z1u, Z1t, Z1s, Z1r, Z44, Z43, Z42, Z4e, Z4f, Z22, Z23, Z3d, Z3e, Z27, Z26, vV_t, vV_f, vB_t, vB_f, encI, encB, rwA, rqA]
      · rintro k ⟨⟨L1, met1⟩, o1⟩ hk ⟨⟨ok1, hiL1, hdone1⟩, hq1, hK⟩
        simp only at ok1 hiL1 hdone1 hq1 hK
        have hle1 := ok1.le
        have hml1 := ok1.len
        have hqm1 : q ∈ L1 := by obtain ⟨h1, h2⟩ := List.getElem?_eq_some_iff.mp hq1; rw [← h2]; exact List.getElem_mem h1
        have hoq := natI_get hq1
        obtain ⟨hoq2, hoq3⟩ := List.getElem?_eq_some_iff.mp hoq
        have hnl : (natI L1).length = L1.length := natI_len L1
        generalize hos : natI L1 = os at *
        by_cases hkl : (k : Int) < d.signs
        · obtain ⟨hj, hsa, hsb⟩ := step_at R hqn (s := (k : Int)) (by omega) hkl
          have hj' : k < (d.next[q]).length := hj
          have hsa' : (d.next[q])[k] = (stepD d q k : Int) := hsa
          have hrt : Rch d (stepD d q k) := (ok1.rch q hqm1).step (by omega) hkl
          generalize ht : stepD d q k = t at *
          have hkn : k < d.signs.toNat := by omega
          have htm : t < met1.length := by omega
          have hok : appOk 8 os.length 1 := by unfold appOk; omega
          have hgm : met1.getD t false = met1[t] := by rw [List.getD_eq_getElem?_getD, List.getElem?_eq_getElem htm]; rfl
          have hmI : (d.next.length : Int) ≤ met1.length := by omega
          have hml2 : d.next.length ≤ met1.length := by omega
          cases hb : met1[t] with
          | true =>
            simp [AWb_seq, Z0m, Z0n, Z0j, Z0k, Z0r, Z0l, Z0p, Z0q, Z0o, Z21, Z20, Z22, Z23, Z3d, Z3e, Z3a, vIdx, Z4x, Z4w, Z4y, vApp, Z4u, Z3u, Z11, Z10, Z0z, Z0x, Z0w, Z0y, Z17, Z16, Z15, Z13, Z12, Z14, Z2c, Z2d, Z2a, Z2n, Z31, Z30, Z07, Z08, Z06, Z01, Z02, Z00, Z04, Z05, Z03, Z1z, Z1y, Z46, Z48, Z47, Z45, Z1n, Z1o, Z1m, Z3n, Z3k, Z3m, Z3l, Z3o, Z1l, Z29, Z32, Z3x, Z1i, Z1j, Z1k, Z3v, Z3w, Z1g, Z28, Z1h, Z3i, Z3f, Z3h, Z3g, Z3j, Z41, Z40, Z0t, Z0u, Z0v, Z0s, Z1f, Z4c, Z4b, Z4d, Z4a, Z49, ex, Z43, Z42, ev_t, ev_c, Z27, Z26, Z4e, Z4f, Z2m, Z2l, Z2f, Z2j, Z2k, Z2g, Z2h, Z2i, putc, exBslice, lfill, exField, exIdxV, exIdxP, exBox, exAlloc, Z3b, Z3c, exStore, exFieldA, Z34, Z33, Z39, Z38, exPick, exUn, exBeq, exMM, exSeq, seqGo, exExt, binV, intOp, subc, Z4s, Z4r, Z4p, Z4q, Z4n, Z4l, Z4m, Z4o, Z4i, Z4j, Z4g, Z4t, S0, encI, encB, Z4k, Z2e, Z25, Z4h, Z2b, Z24, Z36, Z37, Z35, Z3s, Z3t, Z3r, Z3p, Z3q, idxT_Bs, rwA, rqA, rqG, hos, hkl, hoq, hoq2, hoq3, hqn, hj', hsa', hsb, htm, hb, hml2]
            rw [wrap_in _ (by omega)]
            refine ⟨hkn, ((L1, met1), o1), ⟨⟨ok1, hiL1, hdone1⟩, hq1, fun t' ht' => ?_⟩, Abs.of [(0, 0), (2, 2), (3, 3)] [] (by omega) ⟨by simp, by simp⟩ ?_ ?_⟩
            · by_cases htk : t' = k
              · subst htk; rw [ht]; exact (ok1.mem t hsb).mp (by rw [hgm, hb])
              · exact hK t' (by omega)
            · simp [RenL_snoc, RenL.cl, RenV.cl, Z2r, Z2o, Z2s, Z2t, Z2p, Z2v, Z2u, Z2q, Z2w, Z2x, Z1d, Z1c, Z1b, Z19, Z18, Z1a, Z1e, Z52, Z4v, Z4z, Z3y, Z51, Z50, Z3z, Z1p, Z1q, Z1x, Z1v, Z1w, Z1u, Z1t, Z1s, Z1r, Z44, Z43, Z42, Z4e, Z4f, Z22, Z23, Z3d, Z3e, Z27, Z26, vV_t, vV_f, vB_t, vB_f, encI, encB, rqG, hos, closed_Det]
            · simp [RenL_snoc, RenL.cl, RenV.cl, Z2r, Z2o, Z2s, Z2t, Z2p, Z2v, Z2u, Z2q, Z2w, Z2x, Z1d, Z1c, Z1b, Z19, Z18, Z1a, Z1e, Z52, Z4v, Z4z, Z3y, Z51, Z50, Z3z, Z1p, Z1q, Z1x, Z1v, Z1w, Z1u, Z1t, Z1s, Z1r, Z44, Z43, Z42, Z4e, Z4f, Z22, Z23, Z3d, Z3e, Z27, Z26, vV_t, vV_f, vB_t, vB_f, encI, encB, rwA, rqA, hos]
          | false =>
            simp [AWb_seq, Z0m, Z0n, Z0j, Z0k, Z0r, Z0l, Z0p, Z0q, Z0o, Z21, Z20, Z22, Z23, Z3d, Z3e, Z3a, vIdx, Z4x, Z4w, Z4y, vApp, Z4u, Z3u, Z11, Z10, Z0z, Z0x, Z0w, Z0y, Z17, Z16, Z15, Z13, Z12, Z14, Z2c, Z2d, Z2a, Z2n, Z31, Z30, Z07, Z08, Z06, Z01, Z02, Z00, Z04, Z05, Z03, Z1z, Z1y, Z46, Z48, Z47, Z45, Z1n, Z1o, Z1m, Z3n, Z3k, Z3m, Z3l, Z3o, Z1l, Z29, Z32, Z3x, Z1i, Z1j, Z1k, Z3v, Z3w, Z1g, Z28, Z1h, Z3i, Z3f, Z3h, Z3g, Z3j, Z41, Z40, Z0t, Z0u, Z0v, Z0s, Z1f, Z4c, Z4b, Z4d, Z4a, Z49, ex, Z43, Z42, ev_t, ev_c, Z27, Z26, Z4e, Z4f, Z2m, Z2l, Z2f, Z2j, Z2k, Z2g, Z2h, Z2i, putc, exBslice, lfill, exField, exIdxV, exIdxP, exBox, exAlloc, Z3b, Z3c, exStore, exFieldA, Z34, Z33, Z39, Z38, exPick, exUn, exBeq, exMM, exSeq, seqGo, exExt, binV, intOp, subc, Z4s, Z4r, Z4p, Z4q, Z4n, Z4l, Z4m, Z4o, Z4i, Z4j, Z4g, Z4t, S0, encI, encB, Z4k, Z2e, Z25, Z4h, Z2b, Z24, Z36, Z37, Z35, Z3s, Z3t, Z3r, Z3p, Z3q, idxT_Bs, rwA, rqA, rqG, hos, hkl, hoq, hoq2, hoq3, hqn, hj', hsa', hsb, htm, hb, hml2, hok]
            rw [wrap_in _ (by omega)]
            have hadd := ok1.add hsb (by rw [hgm, hb]) hrt
            refine ⟨hkn, ((L1 ++ [t], met1.set t true), true), ⟨⟨hadd, by simp only [List.length_append]; omega, fun j q' hj hj2 t' ht' => ?_⟩, ?_, fun t' ht' => ?_⟩, Abs.of [(0, 0), (2, 2), (3, 38)] [] (by omega) ⟨by simp, by simp⟩ ?_ ?_⟩
            · have hjl : j < L1.length := by have := (List.getElem?_eq_some_iff.mp hq1).1; omega
              simp only at hj2
              rw [List.getElem?_append_left hjl] at hj2
              exact List.mem_append_left _ (hdone1 j q' hj hj2 t' ht')
            · simp only; rw [List.getElem?_append_left (List.getElem?_eq_some_iff.mp hq1).1]; exact hq1
            · by_cases htk : t' = k
              · subst htk; rw [ht]; simp
              · exact List.mem_append_left _ (hK t' (by omega))
            · simp [RenL_snoc, RenL.cl, RenV.cl, Z2r, Z2o, Z2s, Z2t, Z2p, Z2v, Z2u, Z2q, Z2w, Z2x, Z1d, Z1c, Z1b, Z19, Z18, Z1a, Z1e, Z52, Z4v, Z4z, Z3y, Z51, Z50, Z3z, Z1p, Z1q, Z1x, Z1v, Z1w, Z1u, Z1t, Z1s, Z1r, Z44, Z43, Z42, Z4e, Z4f, Z22, Z23, Z3d, Z3e, Z27, Z26, vV_t, vV_f, vB_t, vB_f, encI, encB, rqG, natI_snoc, hos, closed_Det]
              simpa [encB] using RenL_setB met1 t true
            · simp [RenL_snoc, RenL.cl, RenV.cl, Z2r, Z2o, Z2s, Z2t, Z2p, Z2v, Z2u, Z2q, Z2w, Z2x, Z1d, Z1c, Z1b, Z19, Z18, Z1a, Z1e, Z52, Z4v, Z4z, Z3y, Z51, Z50, Z3z, Z1p, Z1q, Z1x, Z1v, Z1w, Z1u, Z1t, Z1s, Z1r, Z44, Z43, Z42, Z4e, Z4f, Z22, Z23, Z3d, Z3e, Z27, Z26, vV_t, vV_f, vB_t, vB_f, encI, encB, rwA, rqA, natI_snoc, hos]
        · simp [AWb_seq, Z0m, Z0n, Z0j, Z0k, Z0r, Z0l, Z0p, Z0q, Z0o, Z21, Z20, Z22, Z23, Z3d, Z3e, Z3a, vIdx, Z4x, Z4w, Z4y, vApp, Z4u, Z3u, Z11, Z10, Z0z, Z0x, Z0w, Z0y, Z17, Z16, Z15, Z13, Z12, Z14, Z2c, Z2d, Z2a, Z2n, Z31, Z30, Z07, Z08, Z06, Z01, Z02, Z00, Z04, Z05, Z03, Z1z, Z1y, Z46, Z48, Z47, Z45, Z1n, Z1o, Z1m, Z3n, Z3k, Z3m, Z3l, Z3o, Z1l, Z29, Z32, Z3x, Z1i, Z1j, Z1k, Z3v, Z3w, Z1g, Z28, Z1h, Z3i, Z3f, Z3h, Z3g, Z3j, Z41, Z40, Z0t, Z0u, Z0v, Z0s, Z1f, Z4c, Z4b, Z4d, Z4a, Z49, ex, Z43, Z42, ev_t, ev_c, Z27, Z26, Z4e, Z4f, Z2m, Z2l, Z2f, Z2j, Z2k, Z2g, Z2h, Z2i, putc, exBslice, lfill, exField, exIdxV, exIdxP, exBox, exAlloc, Z3b, Z3c, exStore, exFieldA, Z34, Z33, Z39, Z38, exPick, exUn, exBeq, exMM, exSeq, seqGo, exExt, binV, intOp, subc, Z4s, Z4r, Z4p, Z4q, Z4n, Z4l, Z4m, Z4o, Z4i, Z4j, Z4g, Z4t, S0, encI, encB, Z4k, Z2e, Z25, Z4h, Z2b, Z24, Z36, Z37, Z35, Z3s, Z3t, Z3r, Z3p, Z3q, idxT_Bs, rwA, rqA, rqG, hos, hkl]
          rw [wrap_in _ (by omega)]
          refine ⟨?_, ((L1, met1), o1), ⟨ok1, ?_, fun j q' hj hj2 t ht => ?_⟩, Abs.of [(0, 0), (2, 2), (3, 3)] [] (by omega) ⟨by simp, by simp⟩ ?_ ?_⟩
          · have := (List.getElem?_eq_some_iff.mp hq1).1; omega
          · have := (List.getElem?_eq_some_iff.mp hq1).1; simp only; omega
          · by_cases hji : j = i
            · subst hji
              rw [hq1] at hj2; cases hj2
              exact hK t (by omega)
            · exact hdone1 j q' (by omega) hj2 t ht
          · simp [RenL_snoc, RenL.cl, RenV.cl, Z2r, Z2o, Z2s, Z2t, Z2p, Z2v, Z2u, Z2q, Z2w, Z2x, Z1d, Z1c, Z1b, Z19, Z18, Z1a, Z1e, Z52, Z4v, Z4z, Z3y, Z51, Z50, Z3z, Z1p, Z1q, Z1x, Z1v, Z1w, Z1u, Z1t, Z1s, Z1r, Z44, Z43, Z42, Z4e, Z4f, Z22, Z23, Z3d, Z3e, Z27, Z26, vV_t, vV_f, vB_t, vB_f, encI, encB, rqG, hos, closed_Det]
          · simp [RenL_snoc, RenL.cl, RenV.cl, Z2r, Z2o, Z2s, Z2t, Z2p, Z2v, Z2u, Z2q, Z2w, Z2x, Z1d, Z1c, Z1b, Z19, Z18, Z1a, Z1e, Z52, Z4v, Z4z, Z3y, Z51, Z50, Z3z, Z1p, Z1q, Z1x, Z1v, Z1w, Z1u, Z1t, Z1s, Z1r, Z44, Z43, Z42, Z4e, Z4f, Z22, Z23, Z3d, Z3e, Z27, Z26, vV_t, vV_f, vB_t, vB_f, encI, encB, rqA, hos]
    · have hie : i = L.length := by omega
      have hoI : ¬ (i : Int) < (natI L).length := by rw [natI_len]; omega
      have hfin : met = reachB d := ok.done R (fun q hq s hs => by
        obtain ⟨j, hj, rfl⟩ := List.getElem_of_mem hq
        exact hdone j _ (by omega) (List.getElem?_eq_getElem hj) s hs)
      simp [AWb_seq, Z0m, Z0n, Z0j, Z0k, Z0r, Z0l, Z0p, Z0q, Z0o, Z21, Z20, Z22, Z23, Z3d, Z3e, Z3a, vIdx, Z4x, Z4w, Z4y, vApp, Z4u, Z3u, Z11, Z10, Z0z, Z0x, Z0w, Z0y, Z17, Z16, Z15, Z13, Z12, Z14, Z2c, Z2d, Z2a, Z2n, Z31, Z30, Z07, Z08, Z06, Z01, Z02, Z00, Z04, Z05, Z03, Z1z, Z1y, Z46, Z48, Z47, Z45, Z1n, Z1o, Z1m, Z3n, Z3k, Z3m, Z3l, Z3o, Z1l, Z29, Z32, Z3x, Z1i, Z1j, Z1k, Z3v, Z3w, Z1g, Z28, Z1h, Z3i, Z3f, Z3h, Z3g, Z3j, Z41, Z40, Z0t, Z0u, Z0v, Z0s, Z1f, Z4c, Z4b, Z4d, Z4a, Z49, ex, Z43, Z42, ev_t, ev_c, Z27, Z26, Z4e, Z4f, Z2m, Z2l, Z2f, Z2j, Z2k, Z2g, Z2h, Z2i, putc, exBslice, lfill, exField, exIdxV, exIdxP, exBox, exAlloc, Z3b, Z3c, exStore, exFieldA, Z34, Z33, Z39, Z38, exPick, exUn, exBeq, exMM, exSeq, seqGo, exExt, binV, intOp, subc, Z4s, Z4r, Z4p, Z4q, Z4n, Z4l, Z4m, Z4o, Z4i, Z4j, Z4g, Z4t, S0, encI, encB, Z4k, Z2e, Z25, Z4h, Z2b, Z24, Z36, Z37, Z35, Z3s, Z3t, Z3r, Z3p, Z3q, idxT_Bs, rqA, rqG, hoI]
      rw [← hfin]
      refine .own 2 0 d.next.length 1 (met.map encB) _ (by simp [Z3d]) (by simp; omega) (by simp [hml]) fun j h3 h4 => ?_
      simp only [List.drop_zero, List.getElem_take]
      exact .closed _ (Z18 _ _ (List.getElem_mem _))
noncomputable def emAll (d : Det) : Bool := (List.range d.next.length).all fun x => !((reachB d).getD x false && finB d x)
theorem emptyB_iff (d : Det) : emAll d = true ↔ ∀ x, x < d.next.length → Rch d x → finB d x = false := by
  unfold emAll
  simp only [List.all_eq_true, List.mem_range, Bool.not_eq_true', Bool.and_eq_false_iff]
  constructor
  · intro h x hx hr
    rcases h x hx with h | h
    · rw [(reachB_get d hx).mpr hr] at h; cases h
    · exact h
  · intro h x hx
    cases hb : (reachB d).getD x false with
    | false => exact .inl rfl
    | true => exact .inr (h x hx ((reachB_get d hx).mp hb))
/-- Nothing is accepted. -/
noncomputable def emptyD (d : Det) : Bool := rightD d && emAll d
def emI (d : Det) (i : Nat) (_ : Unit) : Prop := ∀ x, x < i → ((reachB d).getD x false && finB d x) = false
noncomputable def emA (d : Det) (i : Nat) (_ : Unit) : List (Nat × AV) := [(1, .ptr 0 0 0), (3, encBs (reachB d)), (4, encI i)]
theorem Empty_body {P : Program} {fr fq : FuncId} {d : Det} (hr : PureC P fr [encDet d] (encB (rightD d))) (hq : RightD d → PureC P fq [encDet d] (encBs (reachB d))) :
    AWb P 0 (c_caesuraref16_Empty fr fq) (RetK [2] (FzK (encB (emptyD d)))) (argF [encDet d]) S0 := by
  unfold emptyD
  simp [AWb_seq, Z0m, Z0n, Z0j, Z0k, Z0r, Z0l, Z0p, Z0q, Z0o, Z21, Z20, Z22, Z23, Z3d, Z3e, Z3a, vIdx, Z4x, Z4w, Z4y, vApp, Z4u, Z3u, Z11, Z10, Z0z, Z0x, Z0w, Z0y, Z17, Z16, Z15, Z13, Z12, Z14, Z2c, Z2d, Z2a, Z2n, Z31, Z30, Z07, Z08, Z06, Z01, Z02, Z00, Z04, Z05, Z03, Z1z, Z1y, Z46, Z48, Z47, Z45, Z1n, Z1o, Z1m, Z3n, Z3k, Z3m, Z3l, Z3o, Z1l, Z29, Z32, Z3x, Z1i, Z1j, Z1k, Z3v, Z3w, Z1g, Z28, Z1h, Z3i, Z3f, Z3h, Z3g, Z3j, Z41, Z40, Z0t, Z0u, Z0v, Z0s, Z1f, Z4c, Z4b, Z4d, Z4a, Z49, ex, Z43, Z42, ev_t, ev_c, Z27, Z26, Z4e, Z4f, Z2m, Z2l, Z2f, Z2j, Z2k, Z2g, Z2h, Z2i, putc, exBslice, lfill, exField, exIdxV, exIdxP, exBox, exAlloc, Z3b, Z3c, exStore, exFieldA, Z34, Z33, Z39, Z38, exPick, exUn, exBeq, exMM, exSeq, seqGo, exExt, binV, intOp, subc, Z4s, Z4r, Z4p, Z4q, Z4n, Z4l, Z4m, Z4o, Z4i, Z4j, Z4g, Z4t, S0, encI, encB, Z4k, Z2e, Z25, Z4h, Z2b, Z24, Z36, Z37, Z35, Z3s, Z3t, Z3r, Z3p, Z3q, idxT_Bs, c_caesuraref16_Empty]
  refine CallR.pure hr (cl_cons (closed_Det d) cl_nil) (Z2o _) ?_
  cases hb : rightD d with
  | false =>
    simp [AWb_seq, Z0m, Z0n, Z0j, Z0k, Z0r, Z0l, Z0p, Z0q, Z0o, Z21, Z20, Z22, Z23, Z3d, Z3e, Z3a, vIdx, Z4x, Z4w, Z4y, vApp, Z4u, Z3u, Z11, Z10, Z0z, Z0x, Z0w, Z0y, Z17, Z16, Z15, Z13, Z12, Z14, Z2c, Z2d, Z2a, Z2n, Z31, Z30, Z07, Z08, Z06, Z01, Z02, Z00, Z04, Z05, Z03, Z1z, Z1y, Z46, Z48, Z47, Z45, Z1n, Z1o, Z1m, Z3n, Z3k, Z3m, Z3l, Z3o, Z1l, Z29, Z32, Z3x, Z1i, Z1j, Z1k, Z3v, Z3w, Z1g, Z28, Z1h, Z3i, Z3f, Z3h, Z3g, Z3j, Z41, Z40, Z0t, Z0u, Z0v, Z0s, Z1f, Z4c, Z4b, Z4d, Z4a, Z49, ex, Z43, Z42, ev_t, ev_c, Z27, Z26, Z4e, Z4f, Z2m, Z2l, Z2f, Z2j, Z2k, Z2g, Z2h, Z2i, putc, exBslice, lfill, exField, exIdxV, exIdxP, exBox, exAlloc, Z3b, Z3c, exStore, exFieldA, Z34, Z33, Z39, Z38, exPick, exUn, exBeq, exMM, exSeq, seqGo, exExt, binV, intOp, subc, Z4s, Z4r, Z4p, Z4q, Z4n, Z4l, Z4m, Z4o, Z4i, Z4j, Z4g, Z4t, S0, encI, encB, Z4k, Z2e, Z25, Z4h, Z2b, Z24, Z36, Z37, Z35, Z3s, Z3t, Z3r, Z3p, Z3q, idxT_Bs]
    exact FzK_B false _
  | true =>
    have R := (right_iff d).mp hb
    have hn2 := R.n2
    have hfn := R.fin
    have hml := reachB_len d
    simp [AWb_seq, Z0m, Z0n, Z0j, Z0k, Z0r, Z0l, Z0p, Z0q, Z0o, Z21, Z20, Z22, Z23, Z3d, Z3e, Z3a, vIdx, Z4x, Z4w, Z4y, vApp, Z4u, Z3u, Z11, Z10, Z0z, Z0x, Z0w, Z0y, Z17, Z16, Z15, Z13, Z12, Z14, Z2c, Z2d, Z2a, Z2n, Z31, Z30, Z07, Z08, Z06, Z01, Z02, Z00, Z04, Z05, Z03, Z1z, Z1y, Z46, Z48, Z47, Z45, Z1n, Z1o, Z1m, Z3n, Z3k, Z3m, Z3l, Z3o, Z1l, Z29, Z32, Z3x, Z1i, Z1j, Z1k, Z3v, Z3w, Z1g, Z28, Z1h, Z3i, Z3f, Z3h, Z3g, Z3j, Z41, Z40, Z0t, Z0u, Z0v, Z0s, Z1f, Z4c, Z4b, Z4d, Z4a, Z49, ex, Z43, Z42, ev_t, ev_c, Z27, Z26, Z4e, Z4f, Z2m, Z2l, Z2f, Z2j, Z2k, Z2g, Z2h, Z2i, putc, exBslice, lfill, exField, exIdxV, exIdxP, exBox, exAlloc, Z3b, Z3c, exStore, exFieldA, Z34, Z33, Z39, Z38, exPick, exUn, exBeq, exMM, exSeq, seqGo, exExt, binV, intOp, subc, Z4s, Z4r, Z4p, Z4q, Z4n, Z4l, Z4m, Z4o, Z4i, Z4j, Z4g, Z4t, S0, encI, encB, Z4k, Z2e, Z25, Z4h, Z2b, Z24, Z36, Z37, Z35, Z3s, Z3t, Z3r, Z3p, Z3q, idxT_Bs]
    refine CallR.pure (hq R) (cl_cons (closed_Det d) cl_nil) (Z2p _) ?_
    simp [AWb_seq, Z0m, Z0n, Z0j, Z0k, Z0r, Z0l, Z0p, Z0q, Z0o, Z21, Z20, Z22, Z23, Z3d, Z3e, Z3a, vIdx, Z4x, Z4w, Z4y, vApp, Z4u, Z3u, Z11, Z10, Z0z, Z0x, Z0w, Z0y, Z17, Z16, Z15, Z13, Z12, Z14, Z2c, Z2d, Z2a, Z2n, Z31, Z30, Z07, Z08, Z06, Z01, Z02, Z00, Z04, Z05, Z03, Z1z, Z1y, Z46, Z48, Z47, Z45, Z1n, Z1o, Z1m, Z3n, Z3k, Z3m, Z3l, Z3o, Z1l, Z29, Z32, Z3x, Z1i, Z1j, Z1k, Z3v, Z3w, Z1g, Z28, Z1h, Z3i, Z3f, Z3h, Z3g, Z3j, Z41, Z40, Z0t, Z0u, Z0v, Z0s, Z1f, Z4c, Z4b, Z4d, Z4a, Z49, ex, Z43, Z42, ev_t, ev_c, Z27, Z26, Z4e, Z4f, Z2m, Z2l, Z2f, Z2j, Z2k, Z2g, Z2h, Z2i, putc, exBslice, lfill, exField, exIdxV, exIdxP, exBox, exAlloc, Z3b, Z3c, exStore, exFieldA, Z34, Z33, Z39, Z38, exPick, exUn, exBeq, exMM, exSeq, seqGo, exExt, binV, intOp, subc, Z4s, Z4r, Z4p, Z4q, Z4n, Z4l, Z4m, Z4o, Z4i, Z4j, Z4g, Z4t, S0, encI, encB, Z4k, Z2e, Z25, Z4h, Z2b, Z24, Z36, Z37, Z35, Z3s, Z3t, Z3r, Z3p, Z3q, idxT_Bs]
    refine AWb_for d.next.length (emI d) (emA d) 10 (dG d) () (fun x h => by omega) ?_ ?_
    · refine Abs.of [(0, 0)] [] (by omega) ⟨by simp, by simp⟩ ?_ ?_
      · simp [RenL_snoc, RenL.cl, RenV.cl, Z2r, Z2o, Z2s, Z2t, Z2p, Z2v, Z2u, Z2q, Z2w, Z2x, Z1d, Z1c, Z1b, Z19, Z18, Z1a, Z1e, Z52, Z4v, Z4z, Z3y, Z51, Z50, Z3z, Z1p, Z1q, Z1x, Z1v, Z1w, Z1u, Z1t, Z1s, Z1r, Z44, Z43, Z42, Z4e, Z4f, Z22, Z23, Z3d, Z3e, Z27, Z26, vV_t, vV_f, vB_t, vB_f, encI, encB, dG, closed_Det]
      · simp [RenL_snoc, RenL.cl, RenV.cl, Z2r, Z2o, Z2s, Z2t, Z2p, Z2v, Z2u, Z2q, Z2w, Z2x, Z1d, Z1c, Z1b, Z19, Z18, Z1a, Z1e, Z52, Z4v, Z4z, Z3y, Z51, Z50, Z3z, Z1p, Z1q, Z1x, Z1v, Z1w, Z1u, Z1t, Z1s, Z1r, Z44, Z43, Z42, Z4e, Z4f, Z22, Z23, Z3d, Z3e, Z27, Z26, vV_t, vV_f, vB_t, vB_f, encI, encB, emA]
    · rintro i _ hi hI
      by_cases hlt : i < d.next.length
      · have hlt2 : i < (reachB d).length := by omega
        have hlt3 : i < d.fin.length := by omega
        have hg : (reachB d)[i] = (reachB d).getD i false := by rw [List.getD_eq_getElem?_getD, List.getElem?_eq_getElem hlt2]; rfl
        have hf : d.fin[i] = finB d i := by rw [finB, List.getD_eq_getElem?_getD, List.getElem?_eq_getElem hlt3]; rfl
        have hgo : ((reachB d).getD i false && finB d i) = false → emI d (i + 1) () := fun h x hx => by
          by_cases hxi : x = i
          · subst hxi; exact h
          · exact hI x (by omega)
        have hno : ((reachB d).getD i false && finB d i) = true → emAll d = false := fun h => by
          rw [emAll, List.all_eq_false]
          exact ⟨i, List.mem_range.mpr hlt, by rw [h]; simp⟩
        generalize (reachB d).getD i false = rb at *
        generalize finB d i = fb at *
        cases rb with
        | false =>
          simp [AWb_seq, Z0m, Z0n, Z0j, Z0k, Z0r, Z0l, Z0p, Z0q, Z0o, Z21, Z20, Z22, Z23, Z3d, Z3e, Z3a, vIdx, Z4x, Z4w, Z4y, vApp, Z4u, Z3u, Z11, Z10, Z0z, Z0x, Z0w, Z0y, Z17, Z16, Z15, Z13, Z12, Z14, Z2c, Z2d, Z2a, Z2n, Z31, Z30, Z07, Z08, Z06, Z01, Z02, Z00, Z04, Z05, Z03, Z1z, Z1y, Z46, Z48, Z47, Z45, Z1n, Z1o, Z1m, Z3n, Z3k, Z3m, Z3l, Z3o, Z1l, Z29, Z32, Z3x, Z1i, Z1j, Z1k, Z3v, Z3w, Z1g, Z28, Z1h, Z3i, Z3f, Z3h, Z3g, Z3j, Z41, Z40, Z0t, Z0u, Z0v, Z0s, Z1f, Z4c, Z4b, Z4d, Z4a, Z49, ex, Z43, Z42, ev_t, ev_c, Z27, Z26, Z4e, Z4f, Z2m, Z2l, Z2f, Z2j, Z2k, Z2g, Z2h, Z2i, putc, exBslice, lfill, exField, exIdxV, exIdxP, exBox, exAlloc, Z3b, Z3c, exStore, exFieldA, Z34, Z33, Z39, Z38, exPick, exUn, exBeq, exMM, exSeq, seqGo, exExt, binV, intOp, subc, Z4s, Z4r, Z4p, Z4q, Z4n, Z4l, Z4m, Z4o, Z4i, Z4j, Z4g, Z4t, S0, encI, encB, Z4k, Z2e, Z25, Z4h, Z2b, Z24, Z36, Z37, Z35, Z3s, Z3t, Z3r, Z3p, Z3q, idxT_Bs, emA, dG, hlt, hlt2, hml, hg]
          rw [wrap_in _ (by omega)]
          refine ⟨hlt, (), hgo rfl, Abs.of [(0, 0)] [] (by omega) ⟨by simp, by simp⟩ ?_ ?_⟩
          · simp [RenL_snoc, RenL.cl, RenV.cl, Z2r, Z2o, Z2s, Z2t, Z2p, Z2v, Z2u, Z2q, Z2w, Z2x, Z1d, Z1c, Z1b, Z19, Z18, Z1a, Z1e, Z52, Z4v, Z4z, Z3y, Z51, Z50, Z3z, Z1p, Z1q, Z1x, Z1v, Z1w, Z1u, Z1t, Z1s, Z1r, Z44, Z43, Z42, Z4e, Z4f, Z22, Z23, Z3d, Z3e, Z27, Z26, vV_t, vV_f, vB_t, vB_f, encI, encB, dG, closed_Det]
          · simp [RenL_snoc, RenL.cl, RenV.cl, Z2r, Z2o, Z2s, Z2t, Z2p, Z2v, Z2u, Z2q, Z2w, Z2x, Z1d, Z1c, Z1b, Z19, Z18, Z1a, Z1e, Z52, Z4v, Z4z, Z3y, Z51, Z50, Z3z, Z1p, Z1q, Z1x, Z1v, Z1w, Z1u, Z1t, Z1s, Z1r, Z44, Z43, Z42, Z4e, Z4f, Z22, Z23, Z3d, Z3e, Z27, Z26, vV_t, vV_f, vB_t, vB_f, encI, encB, emA]
        | true =>
          cases fb with
          | false =>
            simp [AWb_seq, Z0m, Z0n, Z0j, Z0k, Z0r, Z0l, Z0p, Z0q, Z0o, Z21, Z20, Z22, Z23, Z3d, Z3e, Z3a, vIdx, Z4x, Z4w, Z4y, vApp, Z4u, Z3u, Z11, Z10, Z0z, Z0x, Z0w, Z0y, Z17, Z16, Z15, Z13, Z12, Z14, Z2c, Z2d, Z2a, Z2n, Z31, Z30, Z07, Z08, Z06, Z01, Z02, Z00, Z04, Z05, Z03, Z1z, Z1y, Z46, Z48, Z47, Z45, Z1n, Z1o, Z1m, Z3n, Z3k, Z3m, Z3l, Z3o, Z1l, Z29, Z32, Z3x, Z1i, Z1j, Z1k, Z3v, Z3w, Z1g, Z28, Z1h, Z3i, Z3f, Z3h, Z3g, Z3j, Z41, Z40, Z0t, Z0u, Z0v, Z0s, Z1f, Z4c, Z4b, Z4d, Z4a, Z49, ex, Z43, Z42, ev_t, ev_c, Z27, Z26, Z4e, Z4f, Z2m, Z2l, Z2f, Z2j, Z2k, Z2g, Z2h, Z2i, putc, exBslice, lfill, exField, exIdxV, exIdxP, exBox, exAlloc, Z3b, Z3c, exStore, exFieldA, Z34, Z33, Z39, Z38, exPick, exUn, exBeq, exMM, exSeq, seqGo, exExt, binV, intOp, subc, Z4s, Z4r, Z4p, Z4q, Z4n, Z4l, Z4m, Z4o, Z4i, Z4j, Z4g, Z4t, S0, encI, encB, Z4k, Z2e, Z25, Z4h, Z2b, Z24, Z36, Z37, Z35, Z3s, Z3t, Z3r, Z3p, Z3q, idxT_Bs, emA, dG, hlt, hlt2, hlt3, hml, hg, hf]
            rw [wrap_in _ (by omega)]
            refine ⟨hlt, (), hgo rfl, Abs.of [(0, 0)] [] (by omega) ⟨by simp, by simp⟩ ?_ ?_⟩
            · simp [RenL_snoc, RenL.cl, RenV.cl, Z2r, Z2o, Z2s, Z2t, Z2p, Z2v, Z2u, Z2q, Z2w, Z2x, Z1d, Z1c, Z1b, Z19, Z18, Z1a, Z1e, Z52, Z4v, Z4z, Z3y, Z51, Z50, Z3z, Z1p, Z1q, Z1x, Z1v, Z1w, Z1u, Z1t, Z1s, Z1r, Z44, Z43, Z42, Z4e, Z4f, Z22, Z23, Z3d, Z3e, Z27, Z26, vV_t, vV_f, vB_t, vB_f, encI, encB, dG, closed_Det]
            · simp [RenL_snoc, RenL.cl, RenV.cl, Z2r, Z2o, Z2s, Z2t, Z2p, Z2v, Z2u, Z2q, Z2w, Z2x, Z1d, Z1c, Z1b, Z19, Z18, Z1a, Z1e, Z52, Z4v, Z4z, Z3y, Z51, Z50, Z3z, Z1p, Z1q, Z1x, Z1v, Z1w, Z1u, Z1t, Z1s, Z1r, Z44, Z43, Z42, Z4e, Z4f, Z22, Z23, Z3d, Z3e, Z27, Z26, vV_t, vV_f, vB_t, vB_f, encI, encB, emA]
          | true =>
            rw [hno rfl]
            simp [AWb_seq, Z0m, Z0n, Z0j, Z0k, Z0r, Z0l, Z0p, Z0q, Z0o, Z21, Z20, Z22, Z23, Z3d, Z3e, Z3a, vIdx, Z4x, Z4w, Z4y, vApp, Z4u, Z3u, Z11, Z10, Z0z, Z0x, Z0w, Z0y, Z17, Z16, Z15, Z13, Z12, Z14, Z2c, Z2d, Z2a, Z2n, Z31, Z30, Z07, Z08, Z06, Z01, Z02, Z00, Z04, Z05, Z03, Z1z, Z1y, Z46, Z48, Z47, Z45, Z1n, Z1o, Z1m, Z3n, Z3k, Z3m, Z3l, Z3o, Z1l, Z29, Z32, Z3x, Z1i, Z1j, Z1k, Z3v, Z3w, Z1g, Z28, Z1h, Z3i, Z3f, Z3h, Z3g, Z3j, Z41, Z40, Z0t, Z0u, Z0v, Z0s, Z1f, Z4c, Z4b, Z4d, Z4a, Z49, ex, Z43, Z42, ev_t, ev_c, Z27, Z26, Z4e, Z4f, Z2m, Z2l, Z2f, Z2j, Z2k, Z2g, Z2h, Z2i, putc, exBslice, lfill, exField, exIdxV, exIdxP, exBox, exAlloc, Z3b, Z3c, exStore, exFieldA, Z34, Z33, Z39, Z38, exPick, exUn, exBeq, exMM, exSeq, seqGo, exExt, binV, intOp, subc, Z4s, Z4r, Z4p, Z4q, Z4n, Z4l, Z4m, Z4o, Z4i, Z4j, Z4g, Z4t, S0, encI, encB, Z4k, Z2e, Z25, Z4h, Z2b, Z24, Z36, Z37, Z35, Z3s, Z3t, Z3r, Z3p, Z3q, idxT_Bs, emA, dG, hlt, hlt2, hlt3, hml, hg, hf]
            exact FzK_B false _
      · have hall : emAll d = true := by
          rw [emAll, List.all_eq_true]
          intro x hx
          rw [hI x (by have := List.mem_range.mp hx; omega)]; rfl
        rw [hall]
        simp [AWb_seq, Z0m, Z0n, Z0j, Z0k, Z0r, Z0l, Z0p, Z0q, Z0o, Z21, Z20, Z22, Z23, Z3d, Z3e, Z3a, vIdx, Z4x, Z4w, Z4y, vApp, Z4u, Z3u, Z11, Z10, Z0z, Z0x, Z0w, Z0y, Z17, Z16, Z15, Z13, Z12, Z14, Z2c, Z2d, Z2a, Z2n, Z31, Z30, Z07, Z08, Z06, Z01, Z02, Z00, Z04, Z05, Z03, Z1z, Z1y, Z46, Z48, Z47, Z45, Z1n, Z1o, Z1m, Z3n, Z3k, Z3m, Z3l, Z3o, Z1l, Z29, Z32, Z3x, Z1i, Z1j, Z1k, Z3v, Z3w, Z1g, Z28, Z1h, Z3i, Z3f, Z3h, Z3g, Z3j, Z41, Z40, Z0t, Z0u, Z0v, Z0s, Z1f, Z4c, Z4b, Z4d, Z4a, Z49, ex, Z43, Z42, ev_t, ev_c, Z27, Z26, Z4e, Z4f, Z2m, Z2l, Z2f, Z2j, Z2k, Z2g, Z2h, Z2i, putc, exBslice, lfill, exField, exIdxV, exIdxP, exBox, exAlloc, Z3b, Z3c, exStore, exFieldA, Z34, Z33, Z39, Z38, exPick, exUn, exBeq, exMM, exSeq, seqGo, exExt, binV, intOp, subc, Z4s, Z4r, Z4p, Z4q, Z4n, Z4l, Z4m, Z4o, Z4i, Z4j, Z4g, Z4t, S0, encI, encB, Z4k, Z2e, Z25, Z4h, Z2b, Z24, Z36, Z37, Z35, Z3s, Z3t, Z3r, Z3p, Z3q, idxT_Bs, emA, dG, hlt, hml]
        exact FzK_B true _
end Go.Rf

