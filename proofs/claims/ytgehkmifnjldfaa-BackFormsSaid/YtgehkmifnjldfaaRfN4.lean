import Derived.Test.YtgehkmifnjldfaaRfN2
/- Own work: automata that may choose: the states behind some, and what they accept. -/
set_option linter.unusedVariables false
set_option linter.unusedSimpArgs false
namespace Go.Rf
open Go.RowKit

def c_st_in (f_slices_Contains_Sint_int_ : FuncId) : AC :=
  (.block 2 (.loop (.seq (.reg none [
        ⟨(some 34), .bin .lss (.t 33) (.t 32), none, none⟩])
       (.seq (.cond (.t 34) .skip (.exit 2))
       (.seq (.block 3 (.seq (.reg none [
         ⟨(some 35), .idxA 1 (.t 31) (.t 33), none, none⟩,
         ⟨(some 36), .load none (.t 35), none, none⟩,
         ⟨(some 11), .mv (.t 36), none, none⟩])
        (.seq (.reg none [
         ⟨(some 37), .fieldA 1 (.t 3), none, none⟩,
         ⟨(some 38), .load none (.t 37), none, none⟩,
         ⟨(some 39), .mv (.t 11), none, none⟩,
         ⟨(some 40), .idxA 1 (.t 38) (.t 39), none, none⟩,
         ⟨(some 41), .load none (.t 40), none, none⟩,
         ⟨(some 42), .mv (.t 2), none, none⟩,
         ⟨(some 43), .mv (.c .junk), none, (some ((.c (.clo f_slices_Contains_Sint_int_ [] [])), [(.t 41), (.t 42)]))⟩])
        (.cond (.t 43) (.reg none [
          ⟨(some 44), .mv (.t 7), none, none⟩,
          ⟨(some 45), .mv (.t 11), none, none⟩,
          ⟨(some 46), .bslice 1 1 (.v (.int .i64 0)) [(0, (.t 45))], none, none⟩,
          ⟨(some 47), .app 1 8 (.t 44) (.t 46), none, none⟩,
          ⟨(some 7), .mv (.t 47), none, none⟩]) .skip))))
       (.reg none [
        ⟨(some 48), .bin .add (.t 33) (.c (.v (.int .i64 1))), none, none⟩,
        ⟨(some 33), .mv (.t 48), none, none⟩]))))))
def c_st_out (f_slices_Contains_Sint_int_ : FuncId) : AC :=
  (.block 0 (.loop (.seq (.reg none [
     ⟨(some 15), .bin .lss (.t 14) (.t 13), none, none⟩])
    (.seq (.cond (.t 15) .skip (.exit 0))
    (.seq (.block 1 (.seq (.reg none [
      ⟨(some 16), .idxA 1 (.t 12) (.t 14), none, none⟩,
      ⟨(some 17), .load none (.t 16), none, none⟩,
      ⟨(some 9), .mv (.t 17), none, none⟩])
     (.seq (.seq (.reg none [
      ⟨(some 18), .mv (.t 9), none, none⟩,
      ⟨(some 19), .bin .lss (.t 18) (.c (.v (.int .i64 0))), none, none⟩,
      ⟨(some 20), .mv (.t 19), none, none⟩,
      ⟨(some 21), .mv (.t 9), (some (20, false)), none⟩,
      ⟨(some 22), .fieldA 2 (.t 3), (some (20, false)), none⟩,
      ⟨(some 23), .load none (.t 22), (some (20, false)), none⟩,
      ⟨(some 24), .len (.t 23), (some (20, false)), none⟩,
      ⟨(some 25), .bin .geq (.t 21) (.t 24), (some (20, false)), none⟩,
      ⟨(some 26), .pick (.t 20) (.c (.v (.bool true))) (.t 25), none, none⟩])
     (.cond (.t 26) (.exit 1) .skip))
     (.seq (.reg none [
      ⟨(some 27), .fieldA 2 (.t 3), none, none⟩,
      ⟨(some 28), .load none (.t 27), none, none⟩,
      ⟨(some 29), .mv (.t 9), none, none⟩,
      ⟨(some 30), .idxA 1 (.t 28) (.t 29), none, none⟩,
      ⟨(some 31), .load none (.t 30), none, none⟩,
      ⟨(some 32), .len (.t 31), none, none⟩,
      ⟨(some 33), .mv (.c (.v (.int .i64 0))), none, none⟩])
     (c_st_in f_slices_Contains_Sint_int_)))))
    (.reg none [
     ⟨(some 49), .bin .add (.t 14) (.c (.v (.int .i64 1))), none, none⟩,
     ⟨(some 14), .mv (.t 49), none, none⟩]))))))
def c_net_step (f_slices_Contains_Sint_int_ f_net_set : FuncId) : AC :=
  (.seq (.reg none [
   ⟨(some 3), .box 4 (.t 0), none, none⟩,
   ⟨(some 6), .mv (.c (.sl true [])), none, none⟩])
  (.seq (.reg none [
   ⟨(some 7), .mv (.c (.sl true [])), none, none⟩])
  (.seq (.seq (.reg none [
   ⟨(some 12), .mv (.t 1), none, none⟩,
   ⟨(some 13), .len (.t 12), none, none⟩,
   ⟨(some 14), .mv (.c (.v (.int .i64 0))), none, none⟩])
  (c_st_out f_slices_Contains_Sint_int_))
  (.seq (.reg none [
   ⟨(some 50), .mv (.t 7), none, none⟩,
   ⟨(some 51), .mv (.c .junk), none, (some ((.c (.clo f_net_set [] [])), [(.t 50)]))⟩,
   ⟨(some 6), .mv (.t 51), none, none⟩])
  .ret))))
def c_net_Step (f_net_Right f_net_step : FuncId) : AC :=
  (.seq (.reg none [
   ⟨(some 3), .box 4 (.t 0), none, none⟩,
   ⟨(some 6), .mv (.c (.sl true [])), none, none⟩])
  (.seq (.seq (.reg none [
   ⟨(some 7), .load (some 4) (.t 3), none, none⟩,
   ⟨(some 8), .mv (.c .junk), none, (some ((.c (.clo f_net_Right [] [])), [(.t 7)]))⟩,
   ⟨(some 9), .un .not (.t 8), none, none⟩])
  (.cond (.t 9) (.seq (.reg none [
    ⟨(some 6), .mv (.c (.sl true [])), none, none⟩])
   .ret) .skip))
  (.seq (.reg none [
   ⟨(some 10), .load (some 4) (.t 3), none, none⟩,
   ⟨(some 11), .mv (.t 1), none, none⟩,
   ⟨(some 12), .mv (.t 2), none, none⟩,
   ⟨(some 13), .mv (.c .junk), none, (some ((.c (.clo f_net_step [] [])), [(.t 10), (.t 11), (.t 12)]))⟩,
   ⟨(some 6), .mv (.t 13), none, none⟩])
  .ret)))
def behS (n : Net) (sign : Int) (f : Int) : Bool := (n.by_.getD f.toNat []).contains sign
def behind1 (n : Net) (sign : Int) (p : Int) : List Int := if 0 ≤ p ∧ p < n.follow.length then (n.follow.getD p.toNat []).filter (behS n sign) else []
def behindL (n : Net) (at_ : List Int) (sign : Int) : List Int := at_.flatMap (behind1 n sign)
def stepN (n : Net) (at_ : List Int) (sign : Int) : List Int := setF (behindL n at_ sign)
theorem follow_at {n : Net} (R : RightN n) {p k : Nat} (hp : p < n.follow.length) (hk : k < (n.follow[p]).length) : 1 ≤ (n.follow[p])[k] ∧ (n.follow[p])[k] < n.by_.length := (R.follow p hp).2 _ (List.getElem_mem hk)
theorem follow_len {n : Net} (R : RightN n) {p : Nat} (hp : p < n.follow.length) : (n.follow[p]).length ≤ 301 := by
  have := pw_len (R.follow p hp).1 (R.follow p hp).2
  have := R.n2
  omega
structure StS (n : Net) (at_ : List Int) (sign : Int) (i : Nat) (cur : List Int) (f : AF) (S : St) : Prop where
  e12 : f 12 = encIs at_
  e13 : f 13 = encI at_.length
  e14 : f 14 = encI i
  e2 : f 2 = encI sign
  e3 : f 3 = .ptr 0 0 0
  g0 : S.g 0 = some (.arr 4 [encNet n])
  vec : Vec S.g (f 7) 1 (cur.map encI)
  out : 0 ∉ (f 7).ids
  n1 : 1 ≤ S.n
theorem StS.same {n : Net} {at_ : List Int} {sign : Int} {i : Nat} {cur : List Int} {f f' : AF} {S S' : St} (h : StS n at_ sign i cur f S) (hf : ∀ j, j = 12 ∨ j = 13 ∨ j = 14 ∨ j = 2 ∨ j = 3 ∨ j = 7 → f' j = f j) (hg : S'.g = S.g) (hn : S.n ≤ S'.n) : StS n at_ sign i cur f' S' :=
  ⟨by rw [hf _ (by simp)]; exact h.e12, by rw [hf _ (by simp)]; exact h.e13, by rw [hf _ (by simp)]; exact h.e14, by rw [hf _ (by simp)]; exact h.e2, by rw [hf _ (by simp)]; exact h.e3, by rw [hg]; exact h.g0, by rw [hg, hf _ (by simp)]; exact h.vec, by rw [hf _ (by simp)]; exact h.out, by have := h.n1; omega⟩
theorem st_in {P : Program} {fc : FuncId} {n : Net} (R : RightN n) (hc : ∀ l ∈ n.by_, ∀ x, PureC P fc [encIs l, encI x] (encB (l.contains x))) {at_ : List Int} {sign : Int} {i p : Nat} {cur : List Int} (hp : p < n.follow.length) (hcur : cur.length ≤ 100000000) {f : AF} {S : St} {Q : Exit → AF → St → Prop}
    (h : StS n at_ sign i cur f S) (e31 : f 31 = encIs n.follow[p]) (e32 : f 32 = encI (n.follow[p]).length) (e33 : f 33 = encI 0)
    (hk : ∀ f' S', StS n at_ sign i (cur ++ (n.follow[p]).filter (behS n sign)) f' S' → Q .normal f' S') : AW P (c_st_in fc) Q f S := by
  have hlen := follow_len R hp
  simp [Z0h, Z0c, Z0d, Z09, Z0a, Z0i, Z0b, Z0f, Z0g, Z2z, Z2y, Z07, Z08, Z06, Z01, Z02, Z00, Z04, Z05, Z03, Z1z, Z1y, Z46, Z48, Z47, Z45, Z1n, Z1o, Z1m, Z3n, Z3k, Z3m, Z3l, Z3o, Z1l, Z29, Z32, Z3x, Z1i, Z1j, Z1k, Z3v, Z3w, Z1g, Z28, Z1h, Z3i, Z3f, Z3h, Z3g, Z3j, Z41, Z40, Z0t, Z0u, Z0v, Z0s, Z1f, Z4c, Z4b, Z4d, Z4a, Z49, ex, Z43, Z42, ev_t, ev_c, Z27, Z26, Z4e, Z4f, Z2m, Z2l, Z2f, Z2j, Z2k, Z2g, Z2h, Z2i, putc, exBslice, lfill, exField, exIdxV, exIdxP, exBox, exAlloc, exLoad, exStore, exFieldA, exIdxA, exLen, exPick, exUn, exBeq, exMM, exSeq, seqGo, exExt, binV, intOp, subc, AV.solid, S0, encI, encB, c_st_in]
  refine AW_for (n.follow[p]).length (fun k f S => StS n at_ sign i (cur ++ ((n.follow[p]).take k).filter (behS n sign)) f S ∧ f 31 = encIs n.follow[p] ∧ f 32 = encI (n.follow[p]).length ∧ f 33 = encI k) ?_ ?_
  · exact ⟨by simpa using h, e31, e32, e33⟩
  · rintro k f S hk' ⟨h, e31, e32, e33⟩
    generalize hrow : n.follow[p] = row at *
    have e2 := h.e2
    have e3 := h.e3
    have g0 := h.g0
    simp only [encNet, encIss] at g0
    by_cases hlt : k < row.length
    · have hat : 1 ≤ row[k] ∧ row[k] < n.by_.length := by subst hrow; exact follow_at R hp hlt
      have hge : (0 : Int) ≤ row[k] := by omega
      have hbl : (row[k]).toNat < n.by_.length := by omega
      have hby : n.by_[(row[k]).toNat]? = some n.by_[(row[k]).toNat] := List.getElem?_eq_getElem hbl
      have hbs : behS n sign row[k] = (n.by_[(row[k]).toNat]).contains sign := by simp [behS, List.getD_eq_getElem?_getD, hby]
      have kc := hc _ (List.getElem_mem hbl) sign
      have cc := cl_cons (Z2s n.by_[(row[k]).toNat]) (cl_cons (Z2r sign) cl_nil)
      simp only [encIs, encI] at kc cc
      have htk : row.take (k + 1) = row.take k ++ [row[k]] := by rw [List.take_add_one, List.getElem?_eq_getElem hlt]; rfl
      have hcl : (cur ++ (row.take k).filter (behS n sign)).length ≤ 200000000 := by
        have := List.length_filter_le (behS n sign) (row.take k)
        have : (row.take k).length ≤ k := by rw [List.length_take]; omega
        rw [List.length_append]; omega
      simp [Z0h, Z0c, Z0d, Z09, Z0a, Z0i, Z0b, Z0f, Z0g, Z2z, Z2y, Z07, Z08, Z06, Z01, Z02, Z00, Z04, Z05, Z03, Z1z, Z1y, Z46, Z48, Z47, Z45, Z1n, Z1o, Z1m, Z3n, Z3k, Z3m, Z3l, Z3o, Z1l, Z29, Z32, Z3x, Z1i, Z1j, Z1k, Z3v, Z3w, Z1g, Z28, Z1h, Z3i, Z3f, Z3h, Z3g, Z3j, Z41, Z40, Z0t, Z0u, Z0v, Z0s, Z1f, Z4c, Z4b, Z4d, Z4a, Z49, ex, Z43, Z42, ev_t, ev_c, Z27, Z26, Z4e, Z4f, Z2m, Z2l, Z2f, Z2j, Z2k, Z2g, Z2h, Z2i, putc, exBslice, lfill, exField, exIdxV, exIdxP, exBox, exAlloc, exLoad, exStore, exFieldA, exIdxA, exLen, exPick, exUn, exBeq, exMM, exSeq, seqGo, exExt, binV, intOp, subc, AV.solid, S0, encI, encB, e31, e32, e33, e2, e3, g0, hlt, encIs, hge, hby]
      refine CallR.pure kc cc (Z2o _) ?_
      rw [← hbs]
      cases hb : behS n sign row[k] with
      | false =>
        simp [Z0h, Z0c, Z0d, Z09, Z0a, Z0i, Z0b, Z0f, Z0g, Z2z, Z2y, Z07, Z08, Z06, Z01, Z02, Z00, Z04, Z05, Z03, Z1z, Z1y, Z46, Z48, Z47, Z45, Z1n, Z1o, Z1m, Z3n, Z3k, Z3m, Z3l, Z3o, Z1l, Z29, Z32, Z3x, Z1i, Z1j, Z1k, Z3v, Z3w, Z1g, Z28, Z1h, Z3i, Z3f, Z3h, Z3g, Z3j, Z41, Z40, Z0t, Z0u, Z0v, Z0s, Z1f, Z4c, Z4b, Z4d, Z4a, Z49, ex, Z43, Z42, ev_t, ev_c, Z27, Z26, Z4e, Z4f, Z2m, Z2l, Z2f, Z2j, Z2k, Z2g, Z2h, Z2i, putc, exBslice, lfill, exField, exIdxV, exIdxP, exBox, exAlloc, exLoad, exStore, exFieldA, exIdxA, exLen, exPick, exUn, exBeq, exMM, exSeq, seqGo, exExt, binV, intOp, subc, AV.solid, S0, encI, encB, e31, e32, e33, e2, e3, g0, hlt, encIs]
        rw [wrap_in _ (by omega)]
        refine ⟨hlt, ?_, ?_, ?_, ?_⟩
        · rw [htk, List.filter_append]
          simp only [List.filter_cons, hb, List.filter_nil, Bool.false_eq_true, if_false, List.append_nil]
          refine h.same (fun j hj => ?_) rfl (by show S.n ≤ _; simp; omega)
          rcases hj with rfl | rfl | rfl | rfl | rfl | rfl <;> simp [Z43]
        · simp [Z43, e31, encIs]
        · simp [Z43, e32, encI]
        · simp [Z43, encI]
      | true =>
        simp [Z0h, Z0c, Z0d, Z09, Z0a, Z0i, Z0b, Z0f, Z0g, Z2z, Z2y, Z07, Z08, Z06, Z01, Z02, Z00, Z04, Z05, Z03, Z1z, Z1y, Z46, Z48, Z47, Z45, Z1n, Z1o, Z1m, Z3n, Z3k, Z3m, Z3l, Z3o, Z1l, Z29, Z32, Z3x, Z1i, Z1j, Z1k, Z3v, Z3w, Z1g, Z28, Z1h, Z3i, Z3f, Z3h, Z3g, Z3j, Z41, Z40, Z0t, Z0u, Z0v, Z0s, Z1f, Z4c, Z4b, Z4d, Z4a, Z49, ex, Z43, Z42, ev_t, ev_c, Z27, Z26, Z4e, Z4f, Z2m, Z2l, Z2f, Z2j, Z2k, Z2g, Z2h, Z2i, putc, exBslice, lfill, exField, exIdxV, exIdxP, exBox, exAlloc, exLoad, exStore, exFieldA, exIdxA, exLen, exPick, exUn, exBeq, exMM, exSeq, seqGo, exExt, binV, intOp, subc, AV.solid, S0, encI, encB, e31, e32, e33, e2, e3, g0, hlt, encIs]
        rw [Vec.app (xs := (cur ++ (row.take k).filter (behS n sign)).map encI) (h.vec.frame (fun i hi => rfl)) (cells_I _) (by simp [AV.cells]) (appOk8 (by rw [List.length_map]; omega))]
        simp [Z0h, Z0c, Z0d, Z09, Z0a, Z0i, Z0b, Z0f, Z0g, Z2z, Z2y, Z07, Z08, Z06, Z01, Z02, Z00, Z04, Z05, Z03, Z1z, Z1y, Z46, Z48, Z47, Z45, Z1n, Z1o, Z1m, Z3n, Z3k, Z3m, Z3l, Z3o, Z1l, Z29, Z32, Z3x, Z1i, Z1j, Z1k, Z3v, Z3w, Z1g, Z28, Z1h, Z3i, Z3f, Z3h, Z3g, Z3j, Z41, Z40, Z0t, Z0u, Z0v, Z0s, Z1f, Z4c, Z4b, Z4d, Z4a, Z49, ex, Z43, Z42, ev_t, ev_c, Z27, Z26, Z4e, Z4f, Z2m, Z2l, Z2f, Z2j, Z2k, Z2g, Z2h, Z2i, putc, exBslice, lfill, exField, exIdxV, exIdxP, exBox, exAlloc, exLoad, exStore, exFieldA, exIdxA, exLen, exPick, exUn, exBeq, exMM, exSeq, seqGo, exExt, binV, intOp, subc, AV.solid, S0, encI, encB, e31, e32, e33, e2, e3, hlt, encIs, without_n]
        rw [wrap_in _ (by omega)]
        have n1 := h.n1
        refine ⟨hlt, ⟨?_, ?_, ?_, ?_, ?_, ?_, ?_, ?_, ?_⟩, ?_, ?_, ?_⟩
        · simp [Z43, h.e12]
        · simp [Z43, h.e13]
        · simp [Z43, h.e14]
        · simp [Z43, h.e2, encI]
        · simp [Z43, h.e3]
        · rw [Z4e, if_neg (by omega), without_g _ h.out]; exact h.g0
        · rw [htk, List.filter_append]
          simp only [List.filter_cons, hb, List.filter_nil, if_true]
          have hl1 : (cur ++ ((row.take k).filter (behS n sign) ++ [row[k]])).map encI = (cur ++ (row.take k).filter (behS n sign)).map encI ++ [encI row[k]] := by simp
          rw [hl1]
          simp only [Z43, if_true]
          exact .mk' (by simp [Z4e, encI]) (by simp [Nat.add_assoc])
        · simp [Z43, AV.ids]
        · simp
        · simp [Z43, e31, encIs]
        · simp [Z43, e32, encI]
        · simp [Z43, encI]
    · have : row.take k = row := List.take_of_length_le (by omega)
      rw [this] at h
      simp [Z0h, Z0c, Z0d, Z09, Z0a, Z0i, Z0b, Z0f, Z0g, Z2z, Z2y, Z07, Z08, Z06, Z01, Z02, Z00, Z04, Z05, Z03, Z1z, Z1y, Z46, Z48, Z47, Z45, Z1n, Z1o, Z1m, Z3n, Z3k, Z3m, Z3l, Z3o, Z1l, Z29, Z32, Z3x, Z1i, Z1j, Z1k, Z3v, Z3w, Z1g, Z28, Z1h, Z3i, Z3f, Z3h, Z3g, Z3j, Z41, Z40, Z0t, Z0u, Z0v, Z0s, Z1f, Z4c, Z4b, Z4d, Z4a, Z49, ex, Z43, Z42, ev_t, ev_c, Z27, Z26, Z4e, Z4f, Z2m, Z2l, Z2f, Z2j, Z2k, Z2g, Z2h, Z2i, putc, exBslice, lfill, exField, exIdxV, exIdxP, exBox, exAlloc, exLoad, exStore, exFieldA, exIdxA, exLen, exPick, exUn, exBeq, exMM, exSeq, seqGo, exExt, binV, intOp, subc, AV.solid, S0, encI, encB, e31, e32, e33, hlt]
      refine hk _ _ (h.same (fun j hj => ?_) rfl (by show S.n ≤ _; simp))
      rcases hj with rfl | rfl | rfl | rfl | rfl | rfl <;> simp [Z43]
theorem behindL_take {n : Net} {at_ : List Int} {sign : Int} {i : Nat} (h : i < at_.length) : behindL n (at_.take (i + 1)) sign = behindL n (at_.take i) sign ++ behind1 n sign at_[i] := by
  rw [List.take_add_one, List.getElem?_eq_getElem h]
  unfold behindL
  rw [List.flatMap_append]
  simp only [Option.toList_some, List.flatMap_cons, List.flatMap_nil, List.append_nil]
theorem behind1_len {n : Net} (R : RightN n) (sign p : Int) : (behind1 n sign p).length ≤ 301 := by
  unfold behind1
  split
  · rename_i h
    have hp : p.toNat < n.follow.length := by omega
    have := follow_len R hp
    have h2 := List.length_filter_le (behS n sign) (n.follow.getD p.toNat [])
    rw [List.getD_eq_getElem?_getD, List.getElem?_eq_getElem hp] at h2 ⊢
    simp only [Option.getD_some] at h2 ⊢; omega
  · simp
theorem behindL_len {n : Net} (R : RightN n) (sign : Int) : ∀ (l : List Int), (behindL n l sign).length ≤ 301 * l.length
  | [] => by simp [behindL]
  | p :: l => by
    have h1 := behind1_len R sign p
    have h2 := behindL_len R sign l
    simp only [behindL, List.flatMap_cons, List.length_append, List.length_cons] at h2 ⊢
    omega
theorem net_step_body {P : Program} {fc fs : FuncId} {n : Net} (R : RightN n) (hc : ∀ l ∈ n.by_, ∀ x, PureC P fc [encIs l, encI x] (encB (l.contains x))) (hs : ∀ l : List Int, l.length ≤ 1000000 → PureC P fs [encIs l] (encIs (setF l))) (at_ : List Int) (hat : at_.length ≤ 3000) (sign : Int) :
    AW P (c_net_step fc fs) (RetK [6] (FzK (encIs (stepN n at_ sign)))) (argF [encNet n, encIs at_, encI sign]) S0 := by
  have hfl : n.follow.length ≤ 301 := by have := R.len; have := R.n2; omega
  have hbl := behindL_len R sign at_
  simp [Z0h, Z0c, Z0d, Z09, Z0a, Z0i, Z0b, Z0f, Z0g, Z2z, Z2y, Z07, Z08, Z06, Z01, Z02, Z00, Z04, Z05, Z03, Z1z, Z1y, Z46, Z48, Z47, Z45, Z1n, Z1o, Z1m, Z3n, Z3k, Z3m, Z3l, Z3o, Z1l, Z29, Z32, Z3x, Z1i, Z1j, Z1k, Z3v, Z3w, Z1g, Z28, Z1h, Z3i, Z3f, Z3h, Z3g, Z3j, Z41, Z40, Z0t, Z0u, Z0v, Z0s, Z1f, Z4c, Z4b, Z4d, Z4a, Z49, ex, Z43, Z42, ev_t, ev_c, Z27, Z26, Z4e, Z4f, Z2m, Z2l, Z2f, Z2j, Z2k, Z2g, Z2h, Z2i, putc, exBslice, lfill, exField, exIdxV, exIdxP, exBox, exAlloc, exLoad, exStore, exFieldA, exIdxA, exLen, exPick, exUn, exBeq, exMM, exSeq, seqGo, exExt, binV, intOp, subc, AV.solid, S0, encI, encB, c_net_step, c_st_out, encIs, encNet, encIss]
  refine AW_for at_.length (fun i f S => StS n at_ sign i (behindL n (at_.take i) sign) f S) ?_ ?_
  · refine ⟨?_, ?_, ?_, ?_, ?_, ?_, ?_, ?_, ?_⟩
    · simp [Z43, Z27, Z26, encIs]
    · simp [Z43, Z27, Z26, encI]
    · simp [Z43, encI]
    · simp [Z43, Z27, Z26, encI]
    · simp [Z43]
    · simp [Z4e, encNet, encI, encIss, encIs]
    · simp [Z43, behindL]; exact .nil
    · simp [Z43, AV.ids]
    · simp
  · rintro i f S hi h
    have e12 := h.e12
    have e13 := h.e13
    have e14 := h.e14
    have e3 := h.e3
    have g0 := h.g0
    simp only [encNet, encIss] at g0
    by_cases hlt : i < at_.length
    · have htk := behindL_take (n := n) (sign := sign) hlt
      have hcur : (behindL n (at_.take i) sign).length ≤ 100000000 := by
        have := behindL_len R sign (at_.take i)
        have : (at_.take i).length ≤ at_.length := by rw [List.length_take]; omega
        omega
      by_cases h1 : at_[i] < 0
      · have hb1 : behind1 n sign at_[i] = [] := by unfold behind1; rw [if_neg (by omega)]
        rw [hb1, List.append_nil] at htk
        simp [Z0h, Z0c, Z0d, Z09, Z0a, Z0i, Z0b, Z0f, Z0g, Z2z, Z2y, Z07, Z08, Z06, Z01, Z02, Z00, Z04, Z05, Z03, Z1z, Z1y, Z46, Z48, Z47, Z45, Z1n, Z1o, Z1m, Z3n, Z3k, Z3m, Z3l, Z3o, Z1l, Z29, Z32, Z3x, Z1i, Z1j, Z1k, Z3v, Z3w, Z1g, Z28, Z1h, Z3i, Z3f, Z3h, Z3g, Z3j, Z41, Z40, Z0t, Z0u, Z0v, Z0s, Z1f, Z4c, Z4b, Z4d, Z4a, Z49, ex, Z43, Z42, ev_t, ev_c, Z27, Z26, Z4e, Z4f, Z2m, Z2l, Z2f, Z2j, Z2k, Z2g, Z2h, Z2i, putc, exBslice, lfill, exField, exIdxV, exIdxP, exBox, exAlloc, exLoad, exStore, exFieldA, exIdxA, exLen, exPick, exUn, exBeq, exMM, exSeq, seqGo, exExt, binV, intOp, subc, AV.solid, S0, encI, encB, e12, e13, e14, e3, g0, hlt, encIs, h1]
        rw [wrap_in _ (by omega)]
        refine ⟨hlt, ?_⟩
        show StS n at_ sign (i + 1) (behindL n (at_.take (i + 1)) sign) _ _
        rw [htk]
        have hs := h.same (f' := f) (S' := ⟨S.n + 1, S.g⟩) (fun j hj => rfl) rfl (by simp)
        refine ⟨?_, ?_, ?_, ?_, ?_, h.g0, ?_, ?_, ?_⟩
        · simp [Z43, h.e12]
        · simp [Z43, h.e13]
        · simp [Z43, encI]
        · simp [Z43, h.e2]
        · simp [Z43, h.e3]
        · simp [Z43]; exact h.vec
        · simp [Z43]; exact h.out
        · simp
      · by_cases h2 : (n.follow.length : Int) ≤ at_[i]
        · have hb1 : behind1 n sign at_[i] = [] := by unfold behind1; rw [if_neg (by omega)]
          rw [hb1, List.append_nil] at htk
          simp [Z0h, Z0c, Z0d, Z09, Z0a, Z0i, Z0b, Z0f, Z0g, Z2z, Z2y, Z07, Z08, Z06, Z01, Z02, Z00, Z04, Z05, Z03, Z1z, Z1y, Z46, Z48, Z47, Z45, Z1n, Z1o, Z1m, Z3n, Z3k, Z3m, Z3l, Z3o, Z1l, Z29, Z32, Z3x, Z1i, Z1j, Z1k, Z3v, Z3w, Z1g, Z28, Z1h, Z3i, Z3f, Z3h, Z3g, Z3j, Z41, Z40, Z0t, Z0u, Z0v, Z0s, Z1f, Z4c, Z4b, Z4d, Z4a, Z49, ex, Z43, Z42, ev_t, ev_c, Z27, Z26, Z4e, Z4f, Z2m, Z2l, Z2f, Z2j, Z2k, Z2g, Z2h, Z2i, putc, exBslice, lfill, exField, exIdxV, exIdxP, exBox, exAlloc, exLoad, exStore, exFieldA, exIdxA, exLen, exPick, exUn, exBeq, exMM, exSeq, seqGo, exExt, binV, intOp, subc, AV.solid, S0, encI, encB, e12, e13, e14, e3, g0, hlt, encIs, h1, h2]
          rw [wrap_in _ (by omega)]
          refine ⟨hlt, ?_⟩
          show StS n at_ sign (i + 1) (behindL n (at_.take (i + 1)) sign) _ _
          rw [htk]
          refine ⟨?_, ?_, ?_, ?_, ?_, h.g0, ?_, ?_, ?_⟩
          · simp [Z43, h.e12]
          · simp [Z43, h.e13]
          · simp [Z43, encI]
          · simp [Z43, h.e2]
          · simp [Z43, h.e3]
          · simp [Z43]; exact h.vec
          · simp [Z43]; exact h.out
          · simp
        · have hp : (at_[i]).toNat < n.follow.length := by omega
          have hge : (0 : Int) ≤ at_[i] := by omega
          have hgf : n.follow[(at_[i]).toNat]? = some n.follow[(at_[i]).toNat] := List.getElem?_eq_getElem hp
          have hb1 : behind1 n sign at_[i] = (n.follow[(at_[i]).toNat]).filter (behS n sign) := by
            unfold behind1
            rw [if_pos (by omega), List.getD_eq_getElem?_getD, hgf]; rfl
          simp [Z0h, Z0c, Z0d, Z09, Z0a, Z0i, Z0b, Z0f, Z0g, Z2z, Z2y, Z07, Z08, Z06, Z01, Z02, Z00, Z04, Z05, Z03, Z1z, Z1y, Z46, Z48, Z47, Z45, Z1n, Z1o, Z1m, Z3n, Z3k, Z3m, Z3l, Z3o, Z1l, Z29, Z32, Z3x, Z1i, Z1j, Z1k, Z3v, Z3w, Z1g, Z28, Z1h, Z3i, Z3f, Z3h, Z3g, Z3j, Z41, Z40, Z0t, Z0u, Z0v, Z0s, Z1f, Z4c, Z4b, Z4d, Z4a, Z49, ex, Z43, Z42, ev_t, ev_c, Z27, Z26, Z4e, Z4f, Z2m, Z2l, Z2f, Z2j, Z2k, Z2g, Z2h, Z2i, putc, exBslice, lfill, exField, exIdxV, exIdxP, exBox, exAlloc, exLoad, exStore, exFieldA, exIdxA, exLen, exPick, exUn, exBeq, exMM, exSeq, seqGo, exExt, binV, intOp, subc, AV.solid, S0, encI, encB, e12, e13, e14, e3, g0, hlt, encIs, h1, h2, hge, hgf]
          refine st_in R hc hp hcur (h.same (fun j hj => ?_) rfl (by simp; omega)) ?_ ?_ ?_ (fun f' S' h' => ?_)
          · rcases hj with rfl | rfl | rfl | rfl | rfl | rfl <;> simp [Z43]
          · simp [Z43, encIs]
          · simp [Z43, encI]
          · simp [Z43, encI]
          · have e14' := h'.e14
            simp [Z0h, Z0c, Z0d, Z09, Z0a, Z0i, Z0b, Z0f, Z0g, Z2z, Z2y, Z07, Z08, Z06, Z01, Z02, Z00, Z04, Z05, Z03, Z1z, Z1y, Z46, Z48, Z47, Z45, Z1n, Z1o, Z1m, Z3n, Z3k, Z3m, Z3l, Z3o, Z1l, Z29, Z32, Z3x, Z1i, Z1j, Z1k, Z3v, Z3w, Z1g, Z28, Z1h, Z3i, Z3f, Z3h, Z3g, Z3j, Z41, Z40, Z0t, Z0u, Z0v, Z0s, Z1f, Z4c, Z4b, Z4d, Z4a, Z49, ex, Z43, Z42, ev_t, ev_c, Z27, Z26, Z4e, Z4f, Z2m, Z2l, Z2f, Z2j, Z2k, Z2g, Z2h, Z2i, putc, exBslice, lfill, exField, exIdxV, exIdxP, exBox, exAlloc, exLoad, exStore, exFieldA, exIdxA, exLen, exPick, exUn, exBeq, exMM, exSeq, seqGo, exExt, binV, intOp, subc, AV.solid, S0, encI, encB, e14']
            rw [wrap_in _ (by omega)]
            refine ⟨hlt, ?_⟩
            show StS n at_ sign (i + 1) (behindL n (at_.take (i + 1)) sign) _ _
            rw [htk, hb1]
            refine ⟨?_, ?_, ?_, ?_, ?_, h'.g0, ?_, ?_, ?_⟩
            · simp [Z43, h'.e12]
            · simp [Z43, h'.e13]
            · simp [Z43, encI]
            · simp [Z43, h'.e2]
            · simp [Z43, h'.e3]
            · rw [Z43, if_neg (by decide), Z43, if_neg (by decide)]; exact h'.vec
            · simp [Z43]; exact h'.out
            · simp
    · have htk : at_.take i = at_ := List.take_of_length_le (by omega)
      rw [htk] at h
      have ks := hs (behindL n at_ sign) (by omega)
      simp [Z0h, Z0c, Z0d, Z09, Z0a, Z0i, Z0b, Z0f, Z0g, Z2z, Z2y, Z07, Z08, Z06, Z01, Z02, Z00, Z04, Z05, Z03, Z1z, Z1y, Z46, Z48, Z47, Z45, Z1n, Z1o, Z1m, Z3n, Z3k, Z3m, Z3l, Z3o, Z1l, Z29, Z32, Z3x, Z1i, Z1j, Z1k, Z3v, Z3w, Z1g, Z28, Z1h, Z3i, Z3f, Z3h, Z3g, Z3j, Z41, Z40, Z0t, Z0u, Z0v, Z0s, Z1f, Z4c, Z4b, Z4d, Z4a, Z49, ex, Z43, Z42, ev_t, ev_c, Z27, Z26, Z4e, Z4f, Z2m, Z2l, Z2f, Z2j, Z2k, Z2g, Z2h, Z2i, putc, exBslice, lfill, exField, exIdxV, exIdxP, exBox, exAlloc, exLoad, exStore, exFieldA, exIdxA, exLen, exPick, exUn, exBeq, exMM, exSeq, seqGo, exExt, binV, intOp, subc, AV.solid, S0, encI, encB, e12, e13, e14, hlt]
      refine CallR.gives (f 7).ids ks (FzL.cons ((h.vec.frame (fun j hj => by rw [only_g, if_pos hj])).fz Z2r) .nil) (Z2s _) ?_
      simp [Z0h, Z0c, Z0d, Z09, Z0a, Z0i, Z0b, Z0f, Z0g, Z2z, Z2y, Z07, Z08, Z06, Z01, Z02, Z00, Z04, Z05, Z03, Z1z, Z1y, Z46, Z48, Z47, Z45, Z1n, Z1o, Z1m, Z3n, Z3k, Z3m, Z3l, Z3o, Z1l, Z29, Z32, Z3x, Z1i, Z1j, Z1k, Z3v, Z3w, Z1g, Z28, Z1h, Z3i, Z3f, Z3h, Z3g, Z3j, Z41, Z40, Z0t, Z0u, Z0v, Z0s, Z1f, Z4c, Z4b, Z4d, Z4a, Z49, ex, Z43, Z42, ev_t, ev_c, Z27, Z26, Z4e, Z4f, Z2m, Z2l, Z2f, Z2j, Z2k, Z2g, Z2h, Z2i, putc, exBslice, lfill, exField, exIdxV, exIdxP, exBox, exAlloc, exLoad, exStore, exFieldA, exIdxA, exLen, exPick, exUn, exBeq, exMM, exSeq, seqGo, exExt, binV, intOp, subc, AV.solid, S0, encI, encB, encIs]
      exact .closed _ (Z2s _)
theorem net_Step_body {P : Program} {fr fs : FuncId} (n : Net) (at_ : List Int) (sign : Int) (hr : PureC P fr [encNet n] (encB (rightN n))) (hs : RightN n → PureC P fs [encNet n, encIs at_, encI sign] (encIs (stepN n at_ sign))) :
    AW P (c_net_Step fr fs) (RetK [6] (FzK (encIs (if rightN n = true then stepN n at_ sign else [])))) (argF [encNet n, encIs at_, encI sign]) S0 := by
  have c1 := cl_cons (closed_Net n) cl_nil
  have c2 := cl_cons (closed_Net n) (cl_cons (Z2s at_) (cl_cons (Z2r sign) cl_nil))
  simp only [encNet, encI] at c1 c2 hr hs
  simp [Z0h, Z0c, Z0d, Z09, Z0a, Z0i, Z0b, Z0f, Z0g, Z2z, Z2y, Z07, Z08, Z06, Z01, Z02, Z00, Z04, Z05, Z03, Z1z, Z1y, Z46, Z48, Z47, Z45, Z1n, Z1o, Z1m, Z3n, Z3k, Z3m, Z3l, Z3o, Z1l, Z29, Z32, Z3x, Z1i, Z1j, Z1k, Z3v, Z3w, Z1g, Z28, Z1h, Z3i, Z3f, Z3h, Z3g, Z3j, Z41, Z40, Z0t, Z0u, Z0v, Z0s, Z1f, Z4c, Z4b, Z4d, Z4a, Z49, ex, Z43, Z42, ev_t, ev_c, Z27, Z26, Z4e, Z4f, Z2m, Z2l, Z2f, Z2j, Z2k, Z2g, Z2h, Z2i, putc, exBslice, lfill, exField, exIdxV, exIdxP, exBox, exAlloc, exLoad, exStore, exFieldA, exIdxA, exLen, exPick, exUn, exBeq, exMM, exSeq, seqGo, exExt, binV, intOp, subc, AV.solid, S0, encI, encB, c_net_Step, encNet]
  refine CallR.pure hr c1 (Z2o _) ?_
  cases h : rightN n with
  | false =>
    simp [Z0h, Z0c, Z0d, Z09, Z0a, Z0i, Z0b, Z0f, Z0g, Z2z, Z2y, Z07, Z08, Z06, Z01, Z02, Z00, Z04, Z05, Z03, Z1z, Z1y, Z46, Z48, Z47, Z45, Z1n, Z1o, Z1m, Z3n, Z3k, Z3m, Z3l, Z3o, Z1l, Z29, Z32, Z3x, Z1i, Z1j, Z1k, Z3v, Z3w, Z1g, Z28, Z1h, Z3i, Z3f, Z3h, Z3g, Z3j, Z41, Z40, Z0t, Z0u, Z0v, Z0s, Z1f, Z4c, Z4b, Z4d, Z4a, Z49, ex, Z43, Z42, ev_t, ev_c, Z27, Z26, Z4e, Z4f, Z2m, Z2l, Z2f, Z2j, Z2k, Z2g, Z2h, Z2i, putc, exBslice, lfill, exField, exIdxV, exIdxP, exBox, exAlloc, exLoad, exStore, exFieldA, exIdxA, exLen, exPick, exUn, exBeq, exMM, exSeq, seqGo, exExt, binV, intOp, subc, AV.solid, S0, encI, encB, encIs]
    exact .loose true [] (.sl _ _ (by simp))
  | true =>
    simp [Z0h, Z0c, Z0d, Z09, Z0a, Z0i, Z0b, Z0f, Z0g, Z2z, Z2y, Z07, Z08, Z06, Z01, Z02, Z00, Z04, Z05, Z03, Z1z, Z1y, Z46, Z48, Z47, Z45, Z1n, Z1o, Z1m, Z3n, Z3k, Z3m, Z3l, Z3o, Z1l, Z29, Z32, Z3x, Z1i, Z1j, Z1k, Z3v, Z3w, Z1g, Z28, Z1h, Z3i, Z3f, Z3h, Z3g, Z3j, Z41, Z40, Z0t, Z0u, Z0v, Z0s, Z1f, Z4c, Z4b, Z4d, Z4a, Z49, ex, Z43, Z42, ev_t, ev_c, Z27, Z26, Z4e, Z4f, Z2m, Z2l, Z2f, Z2j, Z2k, Z2g, Z2h, Z2i, putc, exBslice, lfill, exField, exIdxV, exIdxP, exBox, exAlloc, exLoad, exStore, exFieldA, exIdxA, exLen, exPick, exUn, exBeq, exMM, exSeq, seqGo, exExt, binV, intOp, subc, AV.solid, S0, encI, encB]
    refine CallR.pure (hs ((rightN_iff n).mp h)) c2 (Z2s _) ?_
    simp [Z0h, Z0c, Z0d, Z09, Z0a, Z0i, Z0b, Z0f, Z0g, Z2z, Z2y, Z07, Z08, Z06, Z01, Z02, Z00, Z04, Z05, Z03, Z1z, Z1y, Z46, Z48, Z47, Z45, Z1n, Z1o, Z1m, Z3n, Z3k, Z3m, Z3l, Z3o, Z1l, Z29, Z32, Z3x, Z1i, Z1j, Z1k, Z3v, Z3w, Z1g, Z28, Z1h, Z3i, Z3f, Z3h, Z3g, Z3j, Z41, Z40, Z0t, Z0u, Z0v, Z0s, Z1f, Z4c, Z4b, Z4d, Z4a, Z49, ex, Z43, Z42, ev_t, ev_c, Z27, Z26, Z4e, Z4f, Z2m, Z2l, Z2f, Z2j, Z2k, Z2g, Z2h, Z2i, putc, exBslice, lfill, exField, exIdxV, exIdxP, exBox, exAlloc, exLoad, exStore, exFieldA, exIdxA, exLen, exPick, exUn, exBeq, exMM, exSeq, seqGo, exExt, binV, intOp, subc, AV.solid, S0, encI, encB]
    exact .closed _ (Z2s _)
end Go.Rf


/- Own work: automata that may choose, as the document steps through them; what they accept. -/
set_option linter.unusedVariables false
set_option linter.unusedSimpArgs false
namespace Go.Rf
open Go.RowKit
attribute [local simp] Z0h Z0c Z0d Z09 Z0a Z0i Z0b Z0f Z0g Z2z Z2y Z07 Z08 Z06 Z01 Z02 Z00 Z04 Z05 Z03 Z1z Z1y Z46 Z48 Z47 Z45 Z1n Z1o Z1m Z3n Z3k Z3m Z3l Z3o Z1l Z29 Z32 Z3x Z1i Z1j Z1k Z3v Z3w Z1g Z28 Z1h Z3i Z3f Z3h Z3g Z3j Z41 Z40 Z0t Z0u Z0v Z0s Z1f Z4c Z4b Z4d Z4a Z49 ex Z43 Z42 ev_t ev_c Z27 Z26 Z4e Z4f Z2m Z2l Z2f Z2j Z2k Z2g Z2h Z2i putc exBslice lfill exField exIdxV exIdxP exBox exAlloc exLoad exStore exFieldA exIdxA exLen exPick exUn exBeq exMM exSeq seqGo exExt binV intOp subc AV.solid S0 encI encB

def c_rs_in (f_caesuraref13_has f_caesuraref13_put : FuncId) : AC :=
  (.block 2 (.loop (.seq (.seq (.reg none [
        ⟨(some 43), .mv (.t 10), none, none⟩,
        ⟨(some 44), .mv (.t 9), none, none⟩,
        ⟨(some 45), .len (.t 44), none, none⟩,
        ⟨(some 46), .bin .lss (.t 43) (.t 45), none, none⟩])
       (.cond (.t 46) .skip (.exit 2)))
       (.seq (.block 3 (.seq (.reg (some []) [
         ⟨(some 49), .fieldA 1 (.t 3), none, none⟩,
         ⟨(some 50), .load none (.t 49), none, none⟩,
         ⟨(some 51), .mv (.t 9), none, none⟩,
         ⟨(some 52), .mv (.t 10), none, none⟩,
         ⟨(some 53), .idxA 1 (.t 51) (.t 52), none, none⟩,
         ⟨(some 54), .load none (.t 53), none, none⟩,
         ⟨(some 55), .idxA 1 (.t 50) (.t 54), none, none⟩,
         ⟨(some 56), .load none (.t 55), none, none⟩,
         ⟨(some 57), .mv (.t 2), none, none⟩,
         ⟨(some 58), .mv (.c .junk), none, (some ((.c (.clo f_caesuraref13_has [] [])), [(.t 56), (.t 57)]))⟩])
        (.cond (.t 58) (.reg none [
          ⟨(some 59), .mv (.t 7), none, none⟩,
          ⟨(some 60), .mv (.t 9), none, none⟩,
          ⟨(some 61), .mv (.t 10), none, none⟩,
          ⟨(some 62), .idxA 1 (.t 60) (.t 61), none, none⟩,
          ⟨(some 63), .load none (.t 62), none, none⟩,
          ⟨(some 64), .mv (.c .junk), none, (some ((.c (.clo f_caesuraref13_put [] [])), [(.t 59), (.t 63)]))⟩,
          ⟨(some 7), .mv (.t 64), none, none⟩]) .skip)))
       (.reg none [
        ⟨(some 47), .mv (.t 10), none, none⟩,
        ⟨(some 48), .bin .add (.t 47) (.c (.v (.int .i64 1))), none, none⟩,
        ⟨(some 10), .mv (.t 48), none, none⟩])))))
def c_rs_out (f_caesuraref13_has f_caesuraref13_put : FuncId) : AC :=
  (.block 0 (.loop (.seq (.seq (.reg none [
     ⟨(some 14), .mv (.t 8), none, none⟩,
     ⟨(some 15), .mv (.t 1), none, none⟩,
     ⟨(some 16), .len (.t 15), none, none⟩,
     ⟨(some 17), .bin .lss (.t 14) (.t 16), none, none⟩])
    (.cond (.t 17) .skip (.exit 0)))
    (.seq (.block 1 (.seq (.seq (.reg (some []) [
      ⟨(some 20), .mv (.t 1), none, none⟩,
      ⟨(some 21), .mv (.t 8), none, none⟩,
      ⟨(some 22), .idxA 1 (.t 20) (.t 21), none, none⟩,
      ⟨(some 23), .load none (.t 22), none, none⟩,
      ⟨(some 24), .bin .lss (.t 23) (.c (.v (.int .i64 0))), none, none⟩,
      ⟨(some 25), .mv (.t 24), none, none⟩,
      ⟨(some 26), .mv (.t 1), (some (25, false)), none⟩,
      ⟨(some 27), .mv (.t 8), (some (25, false)), none⟩,
      ⟨(some 28), .idxA 1 (.t 26) (.t 27), (some (25, false)), none⟩,
      ⟨(some 29), .load none (.t 28), (some (25, false)), none⟩,
      ⟨(some 30), .fieldA 2 (.t 3), (some (25, false)), none⟩,
      ⟨(some 31), .load none (.t 30), (some (25, false)), none⟩,
      ⟨(some 32), .len (.t 31), (some (25, false)), none⟩,
      ⟨(some 33), .bin .geq (.t 29) (.t 32), (some (25, false)), none⟩,
      ⟨(some 34), .pick (.t 25) (.c (.v (.bool true))) (.t 33), none, none⟩])
     (.cond (.t 34) (.exit 1) .skip))
     (.seq (.reg (some []) [
      ⟨(some 35), .fieldA 2 (.t 3), none, none⟩,
      ⟨(some 36), .load none (.t 35), none, none⟩,
      ⟨(some 37), .mv (.t 1), none, none⟩,
      ⟨(some 38), .mv (.t 8), none, none⟩,
      ⟨(some 39), .idxA 1 (.t 37) (.t 38), none, none⟩,
      ⟨(some 40), .load none (.t 39), none, none⟩,
      ⟨(some 41), .idxA 1 (.t 36) (.t 40), none, none⟩,
      ⟨(some 42), .load none (.t 41), none, none⟩,
      ⟨(some 9), .mv (.t 42), none, none⟩])
     (.seq (.reg none [
      ⟨(some 10), .mv (.c (.v (.int .i64 0))), none, none⟩])
     (c_rs_in f_caesuraref13_has f_caesuraref13_put)))))
    (.reg none [
     ⟨(some 18), .mv (.t 8), none, none⟩,
     ⟨(some 19), .bin .add (.t 18) (.c (.v (.int .i64 1))), none, none⟩,
     ⟨(some 8), .mv (.t 19), none, none⟩])))))
def c_caesuraref13_Step (f_caesuraref13_Right f_caesuraref13_has f_caesuraref13_put : FuncId) : AC :=
  (.seq (.reg none [
   ⟨(some 3), .box 4 (.t 0), none, none⟩,
   ⟨(some 6), .mv (.c (.sl true [])), none, none⟩])
  (.seq (.reg none [
   ⟨(some 7), .mv (.c (.sl true [])), none, none⟩])
  (.seq (.seq (.reg none [
   ⟨(some 11), .load (some 4) (.t 3), none, none⟩,
   ⟨(some 12), .mv (.c .junk), none, (some ((.c (.clo f_caesuraref13_Right [] [])), [(.t 11)]))⟩,
   ⟨(some 13), .un .not (.t 12), none, none⟩])
  (.cond (.t 13) (.seq (.reg none [
    ⟨(some 6), .mv (.c (.sl true [])), none, none⟩])
   .ret) .skip))
  (.seq (.seq (.reg none [
   ⟨(some 8), .mv (.c (.v (.int .i64 0))), none, none⟩])
  (c_rs_out f_caesuraref13_has f_caesuraref13_put))
  (.seq (.reg none [
   ⟨(some 65), .mv (.t 7), none, none⟩,
   ⟨(some 6), .mv (.t 65), none, none⟩])
  .ret)))))
def c_net_Accepts_1 (f_slices_Contains_Sint_int_ : FuncId) : AC :=
  (.seq (.reg none [
   ⟨(some 3), .mv (.c (.v (.bool false))), none, none⟩])
  (.seq (.reg none [
   ⟨(some 4), .fieldA 3 (.t 1), none, none⟩,
   ⟨(some 5), .load none (.t 4), none, none⟩,
   ⟨(some 6), .mv (.t 0), none, none⟩,
   ⟨(some 7), .mv (.c .junk), none, (some ((.c (.clo f_slices_Contains_Sint_int_ [] [])), [(.t 5), (.t 6)]))⟩,
   ⟨(some 3), .mv (.t 7), none, none⟩])
  .ret))
def c_ra_two (f_caesuraref13_Right f_caesuraref13_has : FuncId) : AC :=
  (.block 2 (.loop (.seq (.seq (.reg none [
     ⟨(some 22), .mv (.t 7), none, none⟩,
     ⟨(some 23), .mv (.t 5), none, none⟩,
     ⟨(some 24), .len (.t 23), none, none⟩,
     ⟨(some 25), .bin .lss (.t 22) (.t 24), none, none⟩,
     ⟨(some 26), .mv (.t 25), none, none⟩,
     ⟨(some 27), .load (some 4) (.t 2), (some (26, true)), none⟩,
     ⟨(some 28), .mv (.c .junk), (some (26, true)), (some ((.c (.clo f_caesuraref13_Right [] [])), [(.t 27)]))⟩,
     ⟨(some 29), .pick (.t 26) (.t 28) (.c (.v (.bool false))), none, none⟩])
    (.cond (.t 29) .skip (.exit 2)))
    (.seq (.block 3 (.seq (.reg (some []) [
      ⟨(some 32), .fieldA 3 (.t 2), none, none⟩,
      ⟨(some 33), .load none (.t 32), none, none⟩,
      ⟨(some 34), .mv (.t 5), none, none⟩,
      ⟨(some 35), .mv (.t 7), none, none⟩,
      ⟨(some 36), .idxA 1 (.t 34) (.t 35), none, none⟩,
      ⟨(some 37), .load none (.t 36), none, none⟩,
      ⟨(some 38), .mv (.c .junk), none, (some ((.c (.clo f_caesuraref13_has [] [])), [(.t 33), (.t 37)]))⟩])
     (.cond (.t 38) (.seq (.reg none [
       ⟨(some 4), .mv (.c (.v (.bool true))), none, none⟩])
      .ret) .skip)))
    (.reg none [
     ⟨(some 30), .mv (.t 7), none, none⟩,
     ⟨(some 31), .bin .add (.t 30) (.c (.v (.int .i64 1))), none, none⟩,
     ⟨(some 7), .mv (.t 31), none, none⟩])))))
def c_caesuraref13_Accepts (f_caesuraref13_Step f_caesuraref13_Right f_caesuraref13_has : FuncId) : AC :=
  (.seq (.reg none [
   ⟨(some 2), .box 4 (.t 0), none, none⟩,
   ⟨(some 4), .mv (.c (.v (.bool false))), none, none⟩])
  (.seq (.reg none [
   ⟨(some 8), .bslice 1 1 (.v (.int .i64 0)) [(0, (.c (.v (.int .i64 0))))], none, none⟩,
   ⟨(some 5), .mv (.t 8), none, none⟩])
  (.seq (.seq (.reg none [
   ⟨(some 6), .mv (.c (.v (.int .i64 0))), none, none⟩])
  (.block 0 (.loop (.seq (.seq (.reg none [
     ⟨(some 9), .mv (.t 6), none, none⟩,
     ⟨(some 10), .mv (.t 1), none, none⟩,
     ⟨(some 11), .len (.t 10), none, none⟩,
     ⟨(some 12), .bin .lss (.t 9) (.t 11), none, none⟩])
    (.cond (.t 12) .skip (.exit 0)))
    (.seq (.block 1 (.reg (some []) [
      ⟨(some 15), .load (some 4) (.t 2), none, none⟩,
      ⟨(some 16), .mv (.t 5), none, none⟩,
      ⟨(some 17), .mv (.t 1), none, none⟩,
      ⟨(some 18), .mv (.t 6), none, none⟩,
      ⟨(some 19), .idxA 1 (.t 17) (.t 18), none, none⟩,
      ⟨(some 20), .load none (.t 19), none, none⟩,
      ⟨(some 21), .mv (.c .junk), none, (some ((.c (.clo f_caesuraref13_Step [] [])), [(.t 15), (.t 16), (.t 20)]))⟩,
      ⟨(some 5), .mv (.t 21), none, none⟩]))
    (.reg none [
     ⟨(some 13), .mv (.t 6), none, none⟩,
     ⟨(some 14), .bin .add (.t 13) (.c (.v (.int .i64 1))), none, none⟩,
     ⟨(some 6), .mv (.t 14), none, none⟩]))))))
  (.seq (.seq (.reg none [
   ⟨(some 7), .mv (.c (.v (.int .i64 0))), none, none⟩])
  (c_ra_two f_caesuraref13_Right f_caesuraref13_has))
  (.seq (.reg none [
   ⟨(some 4), .mv (.c (.v (.bool false))), none, none⟩])
  .ret)))))
def putAll (o l : List Int) : List Int := l.foldl putF o
theorem putAll_append (o l m : List Int) : putAll o (l ++ m) = putAll (putAll o l) m := by simp [putAll]
structure RsS (n : Net) (at_ : List Int) (sign : Int) (i : Nat) (cur : List Int) (f : AF) (S : St) : Prop where
  e1 : f 1 = encIs at_
  e8 : f 8 = encI i
  e2 : f 2 = encI sign
  e3 : f 3 = .ptr 0 0 0
  e7 : Iv S.g (f 7) cur
  g0 : S.g 0 = some (.arr 4 [encNet n])
  out : 0 ∉ (f 7).ids
theorem RsS.same {n : Net} {at_ : List Int} {sign : Int} {i : Nat} {cur : List Int} {f f' : AF} {S S' : St} (h : RsS n at_ sign i cur f S) (hf : ∀ j, j = 1 ∨ j = 8 ∨ j = 2 ∨ j = 3 ∨ j = 7 → f' j = f j) (hg : S'.g = S.g) : RsS n at_ sign i cur f' S' :=
  ⟨by rw [hf _ (by simp)]; exact h.e1, by rw [hf _ (by simp)]; exact h.e8, by rw [hf _ (by simp)]; exact h.e2, by rw [hf _ (by simp)]; exact h.e3, by rw [hg, hf _ (by simp)]; exact h.e7, by rw [hg]; exact h.g0, by rw [hf _ (by simp)]; exact h.out⟩
theorem rs_in {P : Program} {fh fp : FuncId} {n : Net} (R : RightN n) (hc : ∀ l ∈ n.by_, ∀ x, PureC P fh [encIs l, encI x] (encB (l.contains x))) (hp : ∀ l x, l.length ≤ 100000 → PureC P fp [encIs l, encI x] (encIs (putF l x))) {at_ : List Int} {sign : Int} {i p : Nat} {cur : List Int} (hpl : p < n.follow.length) (hcur : cur.length ≤ 1000) {f : AF} {S : St} {Q : Exit → AF → St → Prop}
    (h : RsS n at_ sign i cur f S) (e9 : f 9 = encIs n.follow[p]) (e10 : f 10 = encI 0)
    (hk : ∀ f' S', RsS n at_ sign i (putAll cur ((n.follow[p]).filter (behS n sign))) f' S' → Q .normal f' S') : AW P (c_rs_in fh fp) Q f S := by
  have hlen := follow_len R hpl
  simp [c_rs_in]
  refine AW_for (n.follow[p]).length (fun k f S => RsS n at_ sign i (putAll cur (((n.follow[p]).take k).filter (behS n sign))) f S ∧ f 9 = encIs n.follow[p] ∧ f 10 = encI k) ?_ ?_
  · exact ⟨by simpa [putAll] using h, e9, e10⟩
  · rintro k f S hk' ⟨h, e9, e10⟩
    generalize hrow : n.follow[p] = row at *
    have e2 := h.e2
    have e3 := h.e3
    have g0 := h.g0
    simp only [encNet, encIss] at g0
    by_cases hlt : k < row.length
    · have hat : 1 ≤ row[k] ∧ row[k] < n.by_.length := by subst hrow; exact follow_at R hpl hlt
      have hge : (0 : Int) ≤ row[k] := by omega
      have hbl : (row[k]).toNat < n.by_.length := by omega
      have hby : n.by_[(row[k]).toNat]? = some n.by_[(row[k]).toNat] := List.getElem?_eq_getElem hbl
      have hbs : behS n sign row[k] = (n.by_[(row[k]).toNat]).contains sign := by simp [behS, List.getD_eq_getElem?_getD, hby]
      have kc := hc _ (List.getElem_mem hbl) sign
      have cc := cl_cons (Z2s n.by_[(row[k]).toNat]) (cl_cons (Z2r sign) cl_nil)
      simp only [encIs, encI] at kc cc
      have dc : ∀ m g', CallD P fh [.sl false ((n.by_[(row[k]).toNat]).map encI), .v (.int .i64 sign)] ⟨m, g'⟩ [] (encB ((n.by_[(row[k]).toNat]).contains sign)) := fun m g' => CallD.kl kc cc (Z2o _)
      have htk : row.take (k + 1) = row.take k ++ [row[k]] := by rw [List.take_add_one, List.getElem?_eq_getElem hlt]; rfl
      have hcl : (putAll cur ((row.take k).filter (behS n sign))).length ≤ 2000 := by
        have q1 : ∀ (l o : List Int), (putAll o l).length ≤ o.length + l.length := by
          intro l
          induction l with
          | nil => intro o; simp [putAll]
          | cons x l ih =>
            intro o
            have := ih (putF o x)
            have := putF_len o x
            simp only [putAll, List.foldl_cons, List.length_cons] at *
            omega
        have := q1 ((row.take k).filter (behS n sign)) cur
        have := List.length_filter_le (behS n sign) (row.take k)
        have : (row.take k).length ≤ k := by rw [List.length_take]; omega
        omega
      simp [e9, e10, e2, e3, g0, hlt, encIs, hge, hby]
      refine ⟨_, ⟨_, dc _ _⟩, ?_⟩
      rw [← hbs]
      cases hb : behS n sign row[k] with
      | false =>
        simp [e9, e10, e2, e3, g0, hlt, encIs]
        rw [wrap_in _ (by omega)]
        refine ⟨hlt, ?_, ?_, ?_⟩
        · rw [htk, List.filter_append]
          simp only [List.filter_cons, hb, List.filter_nil, Bool.false_eq_true, if_false, List.append_nil]
          refine h.same (fun j hj => ?_) rfl
          rcases hj with rfl | rfl | rfl | rfl | rfl <;> simp [Z43]
        · simp [Z43, e9, encIs]
        · simp [Z43, encI]
      | true =>
        simp [e9, e10, e2, e3, g0, hlt, encIs]
        have kp := hp (putAll cur ((row.take k).filter (behS n sign))) row[k] (by omega)
        refine CallR.gives (S := ⟨S.n + 4 + 10 + 7, S.g⟩) (f 7).ids kp (FzL.cons h.e7.only.fz (FzL.cons (fz_I _) .nil)) (Z2s _) ?_
        simp [e9, e10, encIs]
        rw [wrap_in _ (by omega)]
        refine ⟨hlt, ⟨?_, ?_, ?_, ?_, ?_, ?_, ?_⟩, ?_, ?_⟩
        · simp [Z43, h.e1]
        · simp [Z43, h.e8]
        · simp [Z43, h.e2, encI]
        · simp [Z43, h.e3]
        · rw [htk, List.filter_append]
          simp only [List.filter_cons, hb, List.filter_nil, if_true]
          rw [putAll_append]
          simp only [Z43, if_true]
          exact .inl ⟨false, rfl⟩
        · simp only [lose_g]
          rw [if_neg h.out]; exact h.g0
        · simp [Z43, AV.ids]
        · simp [Z43, e9, encIs]
        · simp [Z43, encI]
    · have : row.take k = row := List.take_of_length_le (by omega)
      rw [this] at h
      simp [e9, e10, hlt, encIs]
      refine hk _ _ (h.same (fun j hj => ?_) rfl)
      rcases hj with rfl | rfl | rfl | rfl | rfl <;> simp [Z43]
theorem stepN_len {n : Net} (R : RightN n) (l : List Int) (sign : Int) : (stepN n l sign).length ≤ 301 := by
  have hm : ∀ x ∈ stepN n l sign, (1 : Int) ≤ x ∧ x < n.by_.length := by
    intro x hx
    have hx := mem_setF.mp hx
    simp only [behindL, List.mem_flatMap] at hx
    obtain ⟨p, hp, hx⟩ := hx
    unfold behind1 at hx
    split at hx
    · rename_i h
      have hpl : p.toNat < n.follow.length := by omega
      rw [List.getD_eq_getElem?_getD, List.getElem?_eq_getElem hpl] at hx
      exact (R.follow _ hpl).2 x (List.mem_filter.mp hx).1
    · simp at hx
  have := pw_len (setF_pw (behindL n l sign)) hm
  have := R.n2
  show (setF (behindL n l sign)).length ≤ 301
  omega
theorem putAll_set (l : List Int) : putAll [] l = setF l := putAll_eq l
theorem Step13_body {P : Program} {fr fh fp : FuncId} (n : Net) (ok : NetOk n) (hr : PureC P fr [encNet n] (encB (rightN n))) (hc : ∀ l ∈ n.by_, ∀ x, PureC P fh [encIs l, encI x] (encB (l.contains x))) (hp : ∀ l x, l.length ≤ 100000 → PureC P fp [encIs l, encI x] (encIs (putF l x))) (at_ : List Int) (hat : Len at_) (sign : Int) :
    AW P (c_caesuraref13_Step fr fh fp) (RetK [6] (FzK (encIs (if rightN n = true then stepN n at_ sign else [])))) (argF [encNet n, encIs at_, encI sign]) S0 := by
  have c1 := cl_cons (closed_Net n) cl_nil
  have hr' := hr
  simp only [encNet, encI] at c1 hr'
  unfold Len at hat
  simp [c_caesuraref13_Step, encNet]
  refine CallR.pure hr' c1 (Z2o _) ?_
  cases h : rightN n with
  | false =>
    simp [encIs]
    exact .loose true [] (.sl _ _ (by simp))
  | true =>
    have R := (rightN_iff n).mp h
    have hfl := R.len
    have hn2 := R.n2
    simp [c_rs_out]
    refine AW_for at_.length (fun i f S => RsS n at_ sign i (setF (behindL n (at_.take i) sign)) f S) ?_ ?_
    · refine ⟨?_, ?_, ?_, ?_, ?_, ?_, ?_⟩
      · simp [Z43, Z27, Z26]
      · simp [Z43, encI]
      · simp [Z43, Z27, Z26, encI]
      · simp [Z43]
      · have hs0 : setF [] = [] := List.eq_nil_of_length_eq_zero (by have := setF_len []; simpa using this)
        simp [Z43, behindL, hs0]; exact .inl ⟨true, rfl⟩
      · simp [Z4e, encNet, encI]
      · simp [Z43, AV.ids]
    · rintro i f S hi h
      have e1 := h.e1
      have e8 := h.e8
      have e3 := h.e3
      have g0 := h.g0
      simp only [encNet, encIss] at g0
      by_cases hlt : i < at_.length
      · have htk := behindL_take (n := n) (sign := sign) hlt
        have next : ∀ f' S', RsS n at_ sign i (setF (behindL n (at_.take (i + 1)) sign)) f' S' → ∀ a b, RsS n at_ sign (i + 1) (setF (behindL n (at_.take (i + 1)) sign)) (((f'.put (some 18) a).put (some 19) b).put (some 8) (.v (.int .i64 ((i : Int) + 1)))) ⟨S'.n + 3, S'.g⟩ := by
          intro f' S' h' a b
          refine ⟨?_, ?_, ?_, ?_, ?_, h'.g0, ?_⟩
          · simp [Z43, h'.e1]
          · simp [Z43, encI]
          · simp [Z43, h'.e2]
          · simp [Z43, h'.e3]
          · simp [Z43]; exact h'.e7
          · simp [Z43]; exact h'.out
        by_cases h1 : at_[i] < 0
        · have hb1 : behind1 n sign at_[i] = [] := by unfold behind1; rw [if_neg (by omega)]
          rw [hb1, List.append_nil] at htk
          simp [e1, e8, e3, g0, hlt, encIs, h1]
          rw [wrap_in _ (by omega)]
          refine ⟨hlt, next _ ⟨_, S.g⟩ ?_ _ _⟩
          rw [htk]
          refine h.same (fun j hj => ?_) rfl
          rcases hj with rfl | rfl | rfl | rfl | rfl <;> simp [Z43]
        · by_cases h2 : (n.follow.length : Int) ≤ at_[i]
          · have hb1 : behind1 n sign at_[i] = [] := by unfold behind1; rw [if_neg (by omega)]
            rw [hb1, List.append_nil] at htk
            simp [e1, e8, e3, g0, hlt, encIs, h1, h2]
            rw [wrap_in _ (by omega)]
            refine ⟨hlt, next _ ⟨_, S.g⟩ ?_ _ _⟩
            rw [htk]
            refine h.same (fun j hj => ?_) rfl
            rcases hj with rfl | rfl | rfl | rfl | rfl <;> simp [Z43]
          · have hpl : (at_[i]).toNat < n.follow.length := by omega
            have hge : (0 : Int) ≤ at_[i] := by omega
            have hgf : n.follow[(at_[i]).toNat]? = some n.follow[(at_[i]).toNat] := List.getElem?_eq_getElem hpl
            have hb1 : behind1 n sign at_[i] = (n.follow[(at_[i]).toNat]).filter (behS n sign) := by
              unfold behind1
              rw [if_pos (by omega), List.getD_eq_getElem?_getD, hgf]; rfl
            have hcur : (setF (behindL n (at_.take i) sign)).length ≤ 1000 := by
              have := stepN_len R (at_.take i) sign
              unfold stepN at this; omega
            simp [e1, e8, e3, g0, hlt, encIs, h1, h2, hge, hgf]
            refine rs_in R hc hp hpl hcur (h.same (fun j hj => ?_) rfl) ?_ ?_ (fun f' S' h' => ?_)
            · rcases hj with rfl | rfl | rfl | rfl | rfl <;> simp [Z43]
            · simp [Z43, encIs]
            · simp [Z43, encI]
            · have e8' := h'.e8
              simp [e8']
              rw [wrap_in _ (by omega)]
              refine ⟨hlt, next f' S' ?_ _ _⟩
              rw [htk, hb1, ← putAll_set, putAll_append, putAll_set]
              exact h'
      · have htk : at_.take i = at_ := List.take_of_length_le (by omega)
        rw [htk] at h
        simp [e1, e8, hlt, encIs]
        exact h.e7.fz
theorem net_Accepts_1_body {P : Program} {fc : FuncId} (n : Net) (s : Int) (hc : PureC P fc [encIs n.last, encI s] (encB (n.last.contains s))) : AW P (c_net_Accepts_1 fc) (RetK [3] (FzK (encB (n.last.contains s)))) (argF [encI s, .eptr (encNet n) 0]) S0 := by
  have cc := cl_cons (Z2s n.last) (cl_cons (Z2r s) cl_nil)
  simp only [encIs, encI] at hc cc
  simp [c_net_Accepts_1, encNet, encIs, encIss]
  refine CallR.pure hc cc (Z2o _) ?_
  simp
  have e : decide (s ∈ n.last) = n.last.contains s := by rw [Bool.eq_iff_iff]; simp
  rw [e]
  exact FzK_B _ _
def runN (n : Net) (l : List Int) : List Int := l.foldl (stepN n) [0]
def accN (n : Net) (l : List Int) : Bool := rightN n && (runN n l).any fun s => n.last.contains s
theorem runN_len {n : Net} (R : RightN n) (l : List Int) : (runN n l).length ≤ 301 := by
  have key : ∀ (l a : List Int), a.length ≤ 301 → (l.foldl (stepN n) a).length ≤ 301 := by
    intro l
    induction l with
    | nil => intro a h; exact h
    | cons x l ih => intro a h; exact ih _ (stepN_len R a x)
  exact key l [0] (by simp)
theorem runN_succ {n : Net} {l : List Int} {i : Nat} (h : i < l.length) : runN n (l.take (i + 1)) = stepN n (runN n (l.take i)) l[i] := by
  rw [List.take_add_one, List.getElem?_eq_getElem h]
  unfold runN
  rw [List.foldl_append]; rfl
def IsSl (v : AV) (l : List Int) : Prop := ∃ t, v = .sl t (l.map encI)
def stpN (n : Net) (a : List Int) (s : Int) : List Int := if rightN n = true then stepN n a s else []
theorem stpN_len (n : Net) (a : List Int) (s : Int) : (stpN n a s).length ≤ 301 := by
  unfold stpN
  split
  · rename_i h; exact stepN_len ((rightN_iff n).mp h) a s
  · simp
theorem foldl_stpN_len (n : Net) : ∀ (l a : List Int), a.length ≤ 301 → (l.foldl (stpN n) a).length ≤ 301
  | [], a, h => h
  | x :: l, a, h => foldl_stpN_len n l _ (stpN_len n a x)
theorem foldl_stpN {n : Net} (h : rightN n = true) (l : List Int) : ∀ a, l.foldl (stpN n) a = l.foldl (stepN n) a := by
  induction l with
  | nil => intro a; rfl
  | cons x l ih => intro a; simp only [List.foldl_cons]; rw [ih]; simp [stpN, h]
def ra2I (n : Net) (a : List Int) (i : Nat) (f : AF) (S : St) : Prop := IsSl (f 5) a ∧ f 2 = .ptr 0 0 0 ∧ f 7 = encI i ∧ S.g 0 = some (.arr 4 [encNet n]) ∧ (rightN n = true ∨ i = 0) ∧ ∀ k (h : k < a.length), k < i → n.last.contains a[k] = false
theorem ra_two {P : Program} {fr fh : FuncId} {n : Net} (hr : PureC P fr [encNet n] (encB (rightN n))) (hh : ∀ x, PureC P fh [encIs n.last, encI x] (encB (n.last.contains x))) {a : List Int} (ha : a.length ≤ 301) {f : AF} {S : St} {Q : Exit → AF → St → Prop}
    (e5 : IsSl (f 5) a) (e2 : f 2 = .ptr 0 0 0) (e7 : f 7 = encI 0) (g0 : S.g 0 = some (.arr 4 [encNet n]))
    (h1 : (rightN n && a.any fun s => n.last.contains s) = false → ∀ f' S', Q .normal f' S') (h2 : (rightN n && a.any fun s => n.last.contains s) = true → ∀ f' S', f' 4 = encB true → Q .ret f' S') : AW P (c_ra_two fr fh) Q f S := by
  have c1 := cl_cons (closed_Net n) cl_nil
  have hr' := hr
  simp only [encNet, encI] at c1 hr'
  simp [c_ra_two]
  refine AW_for a.length (ra2I n a) ?_ ?_
  · exact ⟨e5, e2, e7, g0, .inr rfl, by omega⟩
  · rintro i f S hi ⟨⟨t, e5⟩, e2, e7, g0, hor, hq⟩
    simp only [encNet] at g0
    by_cases hlt : i < a.length
    · simp [e5, e2, e7, g0, hlt]
      refine CallR.pure hr' c1 (Z2o _) ?_
      cases h : rightN n with
      | false =>
        simp
        exact h1 (by simp [h]) _ _
      | true =>
        have kh := hh a[i]
        have ch := cl_cons (Z2s n.last) (cl_cons (Z2r a[i]) cl_nil)
        simp only [encIs, encI] at kh ch
        have dh : ∀ m g', CallD P fh [.sl false (n.last.map encI), .v (.int .i64 a[i])] ⟨m, g'⟩ [] (encB (n.last.contains a[i])) := fun m g' => CallD.kl kh ch (Z2o _)
        simp [e5, e2, e7, g0, hlt, encIs]
        refine ⟨_, ⟨_, dh _ _⟩, ?_⟩
        cases hb : n.last.contains a[i] with
        | true =>
          simp
          exact h2 (by rw [h, Bool.true_and]; exact List.any_eq_true.mpr ⟨_, List.getElem_mem hlt, hb⟩) _ _ (by simp [Z43, encB])
        | false =>
          simp [e7]
          rw [wrap_in _ (by omega)]
          refine ⟨hlt, ⟨t, ?_⟩, ?_, ?_, ?_, .inl h, fun k hk hki => ?_⟩
          · simp [Z43, e5]
          · simp [Z43, e2]
          · simp [Z43, encI]
          · simp [g0, encNet, encI, encIs]
          · by_cases e : k = i
            · subst e; exact hb
            · exact hq k hk (by omega)
    · simp [e5, e2, e7, g0, hlt]
      refine h1 ?_ _ _
      have : (a.any fun s => n.last.contains s) = false := by
        rw [List.any_eq_false]
        intro x hx
        obtain ⟨k, hk, rfl⟩ := List.mem_iff_getElem.mp hx
        rw [hq k hk (by omega)]; simp
      rw [this, Bool.and_false]
theorem Accepts13_body {P : Program} {fs fr fh : FuncId} (n : Net) (l : List Int) (hl : Len l) (hr : PureC P fr [encNet n] (encB (rightN n))) (hs : ∀ a s, a.length ≤ 301 → PureC P fs [encNet n, encIs a, encI s] (encIs (stpN n a s))) (hh : ∀ x, PureC P fh [encIs n.last, encI x] (encB (n.last.contains x))) :
    AW P (c_caesuraref13_Accepts fs fr fh) (RetK [4] (FzK (encB (accN n l)))) (argF [encNet n, encIs l]) S0 := by
  unfold Len at hl
  have htail : ∀ i, l.foldl (stpN n) [0] = i → accN n l = (rightN n && i.any fun s => n.last.contains s) := by
    rintro i rfl
    cases h : rightN n with
    | false => simp [accN, h]
    | true => rw [foldl_stpN h]; simp [accN, h, runN]
  simp [c_caesuraref13_Accepts, encNet, encIs]
  refine AW_for l.length (fun i f S => f 1 = encIs l ∧ f 6 = encI i ∧ f 2 = .ptr 0 0 0 ∧ IsSl (f 5) ((l.take i).foldl (stpN n) [0]) ∧ S.g 0 = some (.arr 4 [encNet n])) ?_ ?_
  · refine ⟨?_, ?_, ?_, ⟨true, ?_⟩, ?_⟩
    · simp [Z43, Z27, Z26, encIs]
    · simp [Z43, encI]
    · simp [Z43]
    · simp [Z43, encI]
    · simp [Z4e, encNet, encI, encIs]
  · rintro i f S hi ⟨e1, e6, e2, ⟨t, e5⟩, g0⟩
    simp only [encNet] at g0
    by_cases hlt : i < l.length
    · have hal := foldl_stpN_len n (l.take i) [0] (by simp)
      generalize ha : (l.take i).foldl (stpN n) [0] = a at *
      have ks := hs a l[i] hal
      have ks' : PureC P fs [encNet n, .sl t (a.map encI), encI l[i]] (encIs (stpN n a l[i])) :=
        ks.weak rfl (fun j h1 h2 E v hv => by
          match j with
          | 0 => exact hv
          | 1 => exact hv.loose
          | 2 => exact hv
          | j + 3 => simp at h1; omega)
      have cs := cl_cons (closed_Net n) (cl_cons (closed_map (t := t) Z2r a) (cl_cons (Z2r l[i]) cl_nil))
      simp only [encNet, encI, encIs] at ks' cs
      have ds : ∀ m g', CallD P fs [.agg [.v (.int .i64 n.signs), encIss n.by_, encIss n.follow, .sl false (n.last.map encI)], .sl t (a.map encI), .v (.int .i64 l[i])] ⟨m, g'⟩ [] (.sl false ((stpN n a l[i]).map encI)) := fun m g' => CallD.kl ks' cs (Z2s _)
      simp [e1, e6, e2, e5, g0, hlt, encIs]
      refine ⟨_, ⟨_, ds _ _⟩, ?_⟩
      rw [wrap_in _ (by omega)]
      refine ⟨hlt, ?_, ?_, ?_, ⟨false, ?_⟩, ?_⟩
      · simp [Z43, e1, encIs]
      · simp [Z43, encI]
      · simp [Z43, e2]
      · rw [List.take_add_one, List.getElem?_eq_getElem hlt, List.foldl_append, ha]
        simp [Z43]
      · simp [g0, encNet, encI, encIs]
    · have htk : l.take i = l := List.take_of_length_le (by omega)
      rw [htk] at e5
      have hacc := htail _ rfl
      simp [e1, e6, hlt, encIs]
      refine ra_two (n := n) hr hh (foldl_stpN_len n l [0] (by simp)) ⟨t, by simp [Z43, e5]⟩ (by simp [Z43, e2]) (by simp [Z43, encI]) (by simp [g0, encNet, encI, encIs]) (fun h f' S' => ?_) (fun h f' S' e4 => ?_)
      · rw [h] at hacc
        rw [hacc]
        simp
        exact FzK_B _ _
      · rw [h] at hacc
        rw [hacc]
        simp [e4]
        exact FzK_B _ _
end Go.Rf

