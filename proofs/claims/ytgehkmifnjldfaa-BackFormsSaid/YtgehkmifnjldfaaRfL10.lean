import Derived.Test.YtgehkmifnjldfaaRfCell
/- Own work: a call in a region whose order is drawn, all plain data. -/
set_option linter.unusedVariables false
namespace Go.Rf
theorem CallD.kl {P : Program} {f : FuncId} {args : List AV} {r : AV} {S : St} (h : PureC P f args r) (hc : ∀ x ∈ args, Closed x) (hr : Closed r) : CallD P f args S [] r :=
  ⟨args, h, rfl, fun j h1 _ => .closed _ (hc _ (List.getElem_mem h1)), .inr (.inl ⟨rfl, hr⟩)⟩
end Go.Rf


set_option linter.unusedVariables false
set_option linter.unusedSimpArgs false
namespace Go.Rf
def c_put_loop : AC :=
  (.block 0 (.loop (.seq (.seq (.reg none [
     ⟨(some 6), .mv (.t 5), none, none⟩,
     ⟨(some 7), .mv (.t 0), none, none⟩,
     ⟨(some 8), .len (.t 7), none, none⟩,
     ⟨(some 9), .bin .lss (.t 6) (.t 8), none, none⟩,
     ⟨(some 10), .mv (.t 9), none, none⟩,
     ⟨(some 11), .mv (.t 0), (some (10, true)), none⟩,
     ⟨(some 12), .mv (.t 5), (some (10, true)), none⟩,
     ⟨(some 13), .idxA 1 (.t 11) (.t 12), (some (10, true)), none⟩,
     ⟨(some 14), .load none (.t 13), (some (10, true)), none⟩,
     ⟨(some 15), .mv (.t 1), (some (10, true)), none⟩,
     ⟨(some 16), .bin .lss (.t 14) (.t 15), (some (10, true)), none⟩,
     ⟨(some 17), .pick (.t 10) (.t 16) (.c (.v (.bool false))), none, none⟩])
    (.cond (.t 17) .skip (.exit 0)))
    (.block 1 (.reg none [
      ⟨(some 18), .mv (.t 5), none, none⟩,
      ⟨(some 19), .bin .add (.t 18) (.c (.v (.int .i64 1))), none, none⟩,
      ⟨(some 5), .mv (.t 19), none, none⟩])))))
def c_put_tail : AC :=
  (.seq (.reg (some [[], [], [], [], [], [true], [false, true], [], [true, false, false, true], [false, true, false, false, true], [false, false, true, false, false, true]]) [
   ⟨(some 33), .bslice 1 0 (.v (.int .i64 0)) [], none, none⟩,
   ⟨(some 34), .mv (.t 0), none, none⟩,
   ⟨(some 35), .mv (.t 5), none, none⟩,
   ⟨(some 36), .slc 1 (.t 34) none (some (.t 35)), none, none⟩,
   ⟨(some 37), .app 1 8 (.t 33) (.t 36), none, none⟩,
   ⟨(some 38), .mv (.t 1), none, none⟩,
   ⟨(some 39), .bslice 1 1 (.v (.int .i64 0)) [(0, (.t 38))], none, none⟩,
   ⟨(some 40), .app 1 8 (.t 37) (.t 39), none, none⟩,
   ⟨(some 41), .mv (.t 0), none, none⟩,
   ⟨(some 42), .mv (.t 5), none, none⟩,
   ⟨(some 43), .slc 1 (.t 41) (some (.t 42)) none, none, none⟩,
   ⟨(some 44), .app 1 8 (.t 40) (.t 43), none, none⟩,
   ⟨(some 4), .mv (.t 44), none, none⟩])
  .ret)
def c_caesuraref01_put : AC :=
  (.seq (.reg none [
   ⟨(some 4), .mv (.c (.sl true [])), none, none⟩])
  (.seq (.reg none [
   ⟨(some 5), .mv (.c (.v (.int .i64 0))), none, none⟩])
  (.seq c_put_loop
  (.seq (.seq (.reg none [
   ⟨(some 20), .mv (.t 5), none, none⟩,
   ⟨(some 21), .mv (.t 0), none, none⟩,
   ⟨(some 22), .len (.t 21), none, none⟩,
   ⟨(some 23), .bin .lss (.t 20) (.t 22), none, none⟩,
   ⟨(some 24), .mv (.t 23), none, none⟩,
   ⟨(some 25), .mv (.t 0), (some (24, true)), none⟩,
   ⟨(some 26), .mv (.t 5), (some (24, true)), none⟩,
   ⟨(some 27), .idxA 1 (.t 25) (.t 26), (some (24, true)), none⟩,
   ⟨(some 28), .load none (.t 27), (some (24, true)), none⟩,
   ⟨(some 29), .mv (.t 1), (some (24, true)), none⟩,
   ⟨(some 30), .bin .eql (.t 28) (.t 29), (some (24, true)), none⟩,
   ⟨(some 31), .pick (.t 24) (.t 30) (.c (.v (.bool false))), none, none⟩])
  (.cond (.t 31) (.seq (.reg none [
    ⟨(some 32), .mv (.t 0), none, none⟩,
    ⟨(some 4), .mv (.t 32), none, none⟩])
   .ret) .skip))
  c_put_tail))))
/-! ### ranges -/
structure Rg where
  low : Int
  high : Int
deriving DecidableEq
def encR (r : Rg) : AV := .agg [encI r.low, encI r.high]
def encRs (l : List Rg) : AV := .sl false (l.map encR)
def encRss (l : List (List Rg)) : AV := .sl false (l.map encRs)
theorem closed_R (r : Rg) : Closed (encR r) := .agg _ (by
  intro y hy
  simp only [List.mem_cons, List.not_mem_nil, or_false] at hy
  rcases hy with rfl | rfl <;> exact Z2r _)
theorem closed_Rs (l : List Rg) : Closed (encRs l) := closed_map closed_R l
def inR (r : Rg) (c : Int) : Bool := decide (r.low ≤ c) && decide (c ≤ r.high)
def hasIn (l : List Rg) (c : Int) : Bool := l.any fun r => inR r c
def hasR (l : List Rg) (c : Int) : Bool := decide (0 ≤ c) && decide (c ≤ 1114111) && decide (l.length ≤ 400) && hasIn l c
theorem appT_nil {es by_ : Nat} {t : Bool} {S : St} {nid : Nat} : (exApp es by_ (.sl true []) (.sl t [])).runT S nid = if appOk by_ 0 0 then some (.sl true [], S, [], []) else none := by
  by_cases h : appOk by_ 0 0 <;> simp [exApp, Eff.runT, AV.oid, lstE, h, St.setL, St.setO]
theorem appT_sl {es by_ : Nat} {t : Bool} {ys : List AV} {S : St} {nid : Nat} (hy : ∀ z ∈ ys, z.cells.length = es) (h0 : 0 < ys.length) (hok : appOk by_ 0 ys.length) :
    (exApp es by_ (.sl true []) (.sl t ys)).runT S nid = some (.own nid 0 ys.length, S.set nid (some (.arr es ys)), [], [nid]) := by
  have hne : ¬ (ys = []) := by intro e; subst e; simp at h0
  have hz : ¬ (ys.length = 0) := by omega
  simp only [exApp, Eff.runT, AV.oid, List.mapM_nil, lstE]
  rw [if_pos hy]
  simp only [Option.pure_def, Option.bind_some, List.length_nil, Nat.zero_add, List.nil_append]
  rw [if_pos ⟨by simp, hok⟩, if_neg hz]
  simp [St.setL, St.setO]
theorem appT_own {es by_ id len : Nat} {t : Bool} {xs ys : List AV} {S : St} {nid : Nat} (hg : S.g id = some (.arr es xs)) (hl : len = xs.length) (hy : ∀ z ∈ ys, z.cells.length = es) (hok : appOk by_ len ys.length) :
    (exApp es by_ (.own id 0 len) (.sl t ys)).runT S nid = some (.own nid 0 (len + ys.length), (S.set id none).set nid (some (.arr es (xs ++ ys))), [id], [id, nid]) := by
  subst hl
  simp only [exApp, Eff.runT, AV.oid, List.mapM_cons, List.mapM_nil, hg, lstE]
  simp only [Option.pure_def, Option.bind_some, Option.bind_eq_bind]
  rw [if_pos hy]
  simp only [Option.bind_some, Nat.zero_add]
  rw [if_pos ⟨trivial, trivial, hok, by simp⟩]
  simp [St.setL, St.setO]
theorem app_own {es by_ id len : Nat} {t : Bool} {xs ys : List AV} {S : St} {nid : Nat} (hg : S.g id = some (.arr es xs)) (hl : len = xs.length) (hy : ∀ z ∈ ys, z.cells.length = es) (hok : appOk by_ len ys.length) :
    (exApp es by_ (.own id 0 len) (.sl t ys)).run S nid = some (.own nid 0 (len + ys.length), (S.set id none).set nid (some (.arr es (xs ++ ys)))) := by
  subst hl
  simp only [exApp, Eff.run, AV.oid, List.mapM_cons, List.mapM_nil, hg, lstE]
  simp only [Option.pure_def, Option.bind_some, Option.bind_eq_bind]
  rw [if_pos hy]
  simp only [Option.bind_some, Nat.zero_add]
  rw [if_pos ⟨trivial, trivial, hok, by simp⟩]
  simp [St.setL, St.setO]
def putF : List Int → Int → List Int
  | [], n => [n]
  | x :: l, n => if x < n then x :: putF l n else if x = n then x :: l else n :: x :: l
theorem putF_at (n : Int) : ∀ (l : List Int) (k : Nat), k ≤ l.length → (∀ j (h : j < l.length), j < k → l[j] < n) → (∀ h : k < l.length, ¬ l[k] < n) →
    putF l n = if l[k]? = some n then l else l.take k ++ n :: l.drop k
  | [], k, hk, _, _ => by
    have : k = 0 := by simpa using hk
    subst this; simp [putF]
  | x :: l, 0, _, _, h => by
    have h0 := h (by simp)
    simp only [List.getElem_cons_zero] at h0
    simp only [putF, if_neg h0, List.getElem?_cons_zero, Option.some.injEq, List.take_zero, List.drop_zero, List.nil_append]
  | x :: l, k + 1, hk, h1, h2 => by
    have hx := h1 0 (by simp) (by omega)
    simp only [List.getElem_cons_zero] at hx
    have ih := putF_at n l k (by simpa using hk) (fun j hj hjk => by have := h1 (j + 1) (by simpa using hj) (by omega); simpa using this) (fun h => by have := h2 (by simpa using h); simpa using this)
    simp only [putF, if_pos hx, List.getElem?_cons_succ, List.take_succ_cons, List.drop_succ_cons, ih]
    split <;> simp
def puI (l : List Int) (n : Int) (m : Nat) (f : AF) (S : St) : Prop :=
  ∃ k, k ≤ l.length ∧ m = l.length - k ∧ f 0 = encIs l ∧ f 1 = encI n ∧ f 5 = encI k ∧ ∀ j (h : j < l.length), j < k → l[j] < n
theorem put_loop {P : Program} {l : List Int} (hl : l.length ≤ 100000) {n : Int} {f : AF} {S : St} {Q : Exit → AF → St → Prop} (h0 : puI l n l.length f S)
    (hq : ∀ f' S' k, k ≤ l.length → f' 0 = encIs l → f' 1 = encI n → f' 5 = encI k → (∀ j (h : j < l.length), j < k → l[j] < n) → (∀ h : k < l.length, ¬ l[k] < n) → Q .normal f' S') : AW P c_put_loop Q f S := by
  simp [Z0h, Z0c, Z0d, Z09, Z0a, Z0i, Z0b, Z0f, Z0g, Z2z, Z2y, Z07, Z08, Z06, Z01, Z02, Z00, Z04, Z05, Z03, Z1z, Z1y, Z46, Z48, Z47, Z45, Z1n, Z1o, Z1m, Z3n, Z3k, Z3m, Z3l, Z3o, Z1l, Z29, Z32, Z3x, Z1i, Z1j, Z1k, Z3v, Z3w, Z1g, Z28, Z1h, Z3i, Z3f, Z3h, Z3g, Z3j, Z41, Z40, Z0t, Z0u, Z0v, Z0s, Z1f, Z4c, Z4b, Z4d, Z4a, Z49, ex, Z43, Z42, ev_t, ev_c, Z27, Z26, Z4e, Z4f, Z2m, Z2l, Z2f, Z2j, Z2k, Z2g, Z2h, Z2i, putc, exBslice, lfill, exField, exIdxV, exIdxP, exBox, exAlloc, exLoad, exStore, exFieldA, exIdxA, exLen, exPick, exUn, exBeq, exMM, exSeq, seqGo, exExt, binV, intOp, subc, AV.solid, S0, encI, encB, c_put_loop]
  refine AW_loop (puI l n) l.length h0 ?_
  rintro m f S ⟨k, hk, rfl, e0, e1, e5, hno⟩
  by_cases hlt : k < l.length
  · have hI : (k : Int) < l.length := by omega
    have hg : l[k]? = some l[k] := List.getElem?_eq_getElem hlt
    have hw : IntKind.i64.wrap ((k : Int) + 1) = (k : Int) + 1 := wrap_in _ (by omega)
    by_cases hc : l[k] < n
    · simp [Z0h, Z0c, Z0d, Z09, Z0a, Z0i, Z0b, Z0f, Z0g, Z2z, Z2y, Z07, Z08, Z06, Z01, Z02, Z00, Z04, Z05, Z03, Z1z, Z1y, Z46, Z48, Z47, Z45, Z1n, Z1o, Z1m, Z3n, Z3k, Z3m, Z3l, Z3o, Z1l, Z29, Z32, Z3x, Z1i, Z1j, Z1k, Z3v, Z3w, Z1g, Z28, Z1h, Z3i, Z3f, Z3h, Z3g, Z3j, Z41, Z40, Z0t, Z0u, Z0v, Z0s, Z1f, Z4c, Z4b, Z4d, Z4a, Z49, ex, Z43, Z42, ev_t, ev_c, Z27, Z26, Z4e, Z4f, Z2m, Z2l, Z2f, Z2j, Z2k, Z2g, Z2h, Z2i, putc, exBslice, lfill, exField, exIdxV, exIdxP, exBox, exAlloc, exLoad, exStore, exFieldA, exIdxA, exLen, exPick, exUn, exBeq, exMM, exSeq, seqGo, exExt, binV, intOp, subc, AV.solid, S0, encI, encB, e0, e1, e5, hI, hlt, hg, encIs, hc, hw]
      refine ⟨l.length - (k + 1), by omega, k + 1, by omega, rfl, ?_, ?_, ?_, fun j hj hjk => ?_⟩
      · simp [Z43, e0, encIs]
      · simp [Z43, e1]
      · simp [Z43, encI]
      · by_cases hjk2 : j = k
        · subst hjk2; exact hc
        · exact hno j hj (by omega)
    · simp [Z0h, Z0c, Z0d, Z09, Z0a, Z0i, Z0b, Z0f, Z0g, Z2z, Z2y, Z07, Z08, Z06, Z01, Z02, Z00, Z04, Z05, Z03, Z1z, Z1y, Z46, Z48, Z47, Z45, Z1n, Z1o, Z1m, Z3n, Z3k, Z3m, Z3l, Z3o, Z1l, Z29, Z32, Z3x, Z1i, Z1j, Z1k, Z3v, Z3w, Z1g, Z28, Z1h, Z3i, Z3f, Z3h, Z3g, Z3j, Z41, Z40, Z0t, Z0u, Z0v, Z0s, Z1f, Z4c, Z4b, Z4d, Z4a, Z49, ex, Z43, Z42, ev_t, ev_c, Z27, Z26, Z4e, Z4f, Z2m, Z2l, Z2f, Z2j, Z2k, Z2g, Z2h, Z2i, putc, exBslice, lfill, exField, exIdxV, exIdxP, exBox, exAlloc, exLoad, exStore, exFieldA, exIdxA, exLen, exPick, exUn, exBeq, exMM, exSeq, seqGo, exExt, binV, intOp, subc, AV.solid, S0, encI, encB, e0, e1, e5, hI, hlt, hg, encIs, hc]
      refine hq _ _ k hk ?_ ?_ ?_ hno (fun _ => hc) <;> simp [Z43, e0, e1, e5, encIs]
  · have hI : ¬ (k : Int) < l.length := by omega
    simp [Z0h, Z0c, Z0d, Z09, Z0a, Z0i, Z0b, Z0f, Z0g, Z2z, Z2y, Z07, Z08, Z06, Z01, Z02, Z00, Z04, Z05, Z03, Z1z, Z1y, Z46, Z48, Z47, Z45, Z1n, Z1o, Z1m, Z3n, Z3k, Z3m, Z3l, Z3o, Z1l, Z29, Z32, Z3x, Z1i, Z1j, Z1k, Z3v, Z3w, Z1g, Z28, Z1h, Z3i, Z3f, Z3h, Z3g, Z3j, Z41, Z40, Z0t, Z0u, Z0v, Z0s, Z1f, Z4c, Z4b, Z4d, Z4a, Z49, ex, Z43, Z42, ev_t, ev_c, Z27, Z26, Z4e, Z4f, Z2m, Z2l, Z2f, Z2j, Z2k, Z2g, Z2h, Z2i, putc, exBslice, lfill, exField, exIdxV, exIdxP, exBox, exAlloc, exLoad, exStore, exFieldA, exIdxA, exLen, exPick, exUn, exBeq, exMM, exSeq, seqGo, exExt, binV, intOp, subc, AV.solid, S0, encI, encB, e0, e1, e5, hI, hlt, encIs]
    refine hq _ _ k hk ?_ ?_ ?_ hno (fun h => (hlt h).elim) <;> simp [Z43, e0, e1, e5, encIs]
theorem put_tail {P : Program} {l : List Int} (hl : l.length ≤ 100000) {n : Int} {k : Nat} (hk : k ≤ l.length) {f : AF} {S : St} (e0 : f 0 = encIs l) (e1 : f 1 = encI n) (e5 : f 5 = encI k) :
    AW P c_put_tail (RetK [4] (FzK (encIs (l.take k ++ n :: l.drop k)))) f S := by
  have hcs : ∀ y ∈ (l.map encI).take k, y.cells.length = 1 := fun y hy => cells_I l y (List.mem_of_mem_take hy)
  have hcd : ∀ y ∈ (l.map encI).drop k, y.cells.length = 1 := fun y hy => cells_I l y (List.mem_of_mem_drop hy)
  have hT : List.take l.length (l.map encI) = l.map encI := List.take_of_length_le (by simp)
  have hlen : ((l.map encI).take k).length = k := by simp; omega
  have hlen2 : ((l.map encI).drop k).length = l.length - k := by simp
  by_cases hk0 : k = 0
  · subst hk0
    simp [Z0h, Z0c, Z0d, Z09, Z0a, Z0i, Z0b, Z0f, Z0g, Z2z, Z2y, Z07, Z08, Z06, Z01, Z02, Z00, Z04, Z05, Z03, Z1z, Z1y, Z46, Z48, Z47, Z45, Z1n, Z1o, Z1m, Z3n, Z3k, Z3m, Z3l, Z3o, Z1l, Z29, Z32, Z3x, Z1i, Z1j, Z1k, Z3v, Z3w, Z1g, Z28, Z1h, Z3i, Z3f, Z3h, Z3g, Z3j, Z41, Z40, Z0t, Z0u, Z0v, Z0s, Z1f, Z4c, Z4b, Z4d, Z4a, Z49, ex, Z43, Z42, ev_t, ev_c, Z27, Z26, Z4e, Z4f, Z2m, Z2l, Z2f, Z2j, Z2k, Z2g, Z2h, Z2i, putc, exBslice, lfill, exField, exIdxV, exIdxP, exBox, exAlloc, exLoad, exStore, exFieldA, exIdxA, exLen, exPick, exUn, exBeq, exMM, exSeq, seqGo, exExt, binV, intOp, subc, AV.solid, S0, encI, encB, c_put_tail, e0, e1, e5, encIs, exSlc, bnd, appT_nil, appOk, hT]
    rw [appT_sl]
    · simp [Z0h, Z0c, Z0d, Z09, Z0a, Z0i, Z0b, Z0f, Z0g, Z2z, Z2y, Z07, Z08, Z06, Z01, Z02, Z00, Z04, Z05, Z03, Z1z, Z1y, Z46, Z48, Z47, Z45, Z1n, Z1o, Z1m, Z3n, Z3k, Z3m, Z3l, Z3o, Z1l, Z29, Z32, Z3x, Z1i, Z1j, Z1k, Z3v, Z3w, Z1g, Z28, Z1h, Z3i, Z3f, Z3h, Z3g, Z3j, Z41, Z40, Z0t, Z0u, Z0v, Z0s, Z1f, Z4c, Z4b, Z4d, Z4a, Z49, ex, Z43, Z42, ev_t, ev_c, Z27, Z26, Z4e, Z4f, Z2m, Z2l, Z2f, Z2j, Z2k, Z2g, Z2h, Z2i, putc, exBslice, lfill, exField, exIdxV, exIdxP, exBox, exAlloc, exLoad, exStore, exFieldA, exIdxA, exLen, exPick, exUn, exBeq, exMM, exSeq, seqGo, exExt, binV, intOp, subc, AV.solid, S0, encI, encB, e0, e1, e5, encIs, exSlc, bnd, hT]
      rw [app_own (xs := [.v (.int .i64 n)])]
      · simp [Z0h, Z0c, Z0d, Z09, Z0a, Z0i, Z0b, Z0f, Z0g, Z2z, Z2y, Z07, Z08, Z06, Z01, Z02, Z00, Z04, Z05, Z03, Z1z, Z1y, Z46, Z48, Z47, Z45, Z1n, Z1o, Z1m, Z3n, Z3k, Z3m, Z3l, Z3o, Z1l, Z29, Z32, Z3x, Z1i, Z1j, Z1k, Z3v, Z3w, Z1g, Z28, Z1h, Z3i, Z3f, Z3h, Z3g, Z3j, Z41, Z40, Z0t, Z0u, Z0v, Z0s, Z1f, Z4c, Z4b, Z4d, Z4a, Z49, ex, Z43, Z42, ev_t, ev_c, Z27, Z26, Z4e, Z4f, Z2m, Z2l, Z2f, Z2j, Z2k, Z2g, Z2h, Z2i, putc, exBslice, lfill, exField, exIdxV, exIdxP, exBox, exAlloc, exLoad, exStore, exFieldA, exIdxA, exLen, exPick, exUn, exBeq, exMM, exSeq, seqGo, exExt, binV, intOp, subc, AV.solid, S0, encI, encB]
        exact Vec.fz (es := 1) (l := n :: l) (Vec.mk' (by simp [Z4e, encI]) (by simp; omega)) Z2r
      · simp [Z4e]
      · simp
      · exact cells_I l
      · unfold appOk; simp; omega
    · simp [AV.cells]
    · simp
    · unfold appOk; simp
  · simp [Z0h, Z0c, Z0d, Z09, Z0a, Z0i, Z0b, Z0f, Z0g, Z2z, Z2y, Z07, Z08, Z06, Z01, Z02, Z00, Z04, Z05, Z03, Z1z, Z1y, Z46, Z48, Z47, Z45, Z1n, Z1o, Z1m, Z3n, Z3k, Z3m, Z3l, Z3o, Z1l, Z29, Z32, Z3x, Z1i, Z1j, Z1k, Z3v, Z3w, Z1g, Z28, Z1h, Z3i, Z3f, Z3h, Z3g, Z3j, Z41, Z40, Z0t, Z0u, Z0v, Z0s, Z1f, Z4c, Z4b, Z4d, Z4a, Z49, ex, Z43, Z42, ev_t, ev_c, Z27, Z26, Z4e, Z4f, Z2m, Z2l, Z2f, Z2j, Z2k, Z2g, Z2h, Z2i, putc, exBslice, lfill, exField, exIdxV, exIdxP, exBox, exAlloc, exLoad, exStore, exFieldA, exIdxA, exLen, exPick, exUn, exBeq, exMM, exSeq, seqGo, exExt, binV, intOp, subc, AV.solid, S0, encI, encB, c_put_tail, e0, e1, e5, encIs, exSlc, bnd, hk, hT]
    have hmin : min k l.length = k := by omega
    rw [appT_sl hcs (by rw [hlen]; omega) (by unfold appOk; rw [hlen]; omega)]
    simp [Z0h, Z0c, Z0d, Z09, Z0a, Z0i, Z0b, Z0f, Z0g, Z2z, Z2y, Z07, Z08, Z06, Z01, Z02, Z00, Z04, Z05, Z03, Z1z, Z1y, Z46, Z48, Z47, Z45, Z1n, Z1o, Z1m, Z3n, Z3k, Z3m, Z3l, Z3o, Z1l, Z29, Z32, Z3x, Z1i, Z1j, Z1k, Z3v, Z3w, Z1g, Z28, Z1h, Z3i, Z3f, Z3h, Z3g, Z3j, Z41, Z40, Z0t, Z0u, Z0v, Z0s, Z1f, Z4c, Z4b, Z4d, Z4a, Z49, ex, Z43, Z42, ev_t, ev_c, Z27, Z26, Z4e, Z4f, Z2m, Z2l, Z2f, Z2j, Z2k, Z2g, Z2h, Z2i, putc, exBslice, lfill, exField, exIdxV, exIdxP, exBox, exAlloc, exLoad, exStore, exFieldA, exIdxA, exLen, exPick, exUn, exBeq, exMM, exSeq, seqGo, exExt, binV, intOp, subc, AV.solid, S0, encI, encB, e0, e1, e5, hmin]
    rw [appT_own (xs := (l.map encI).take k)]
    · simp [Z0h, Z0c, Z0d, Z09, Z0a, Z0i, Z0b, Z0f, Z0g, Z2z, Z2y, Z07, Z08, Z06, Z01, Z02, Z00, Z04, Z05, Z03, Z1z, Z1y, Z46, Z48, Z47, Z45, Z1n, Z1o, Z1m, Z3n, Z3k, Z3m, Z3l, Z3o, Z1l, Z29, Z32, Z3x, Z1i, Z1j, Z1k, Z3v, Z3w, Z1g, Z28, Z1h, Z3i, Z3f, Z3h, Z3g, Z3j, Z41, Z40, Z0t, Z0u, Z0v, Z0s, Z1f, Z4c, Z4b, Z4d, Z4a, Z49, ex, Z43, Z42, ev_t, ev_c, Z27, Z26, Z4e, Z4f, Z2m, Z2l, Z2f, Z2j, Z2k, Z2g, Z2h, Z2i, putc, exBslice, lfill, exField, exIdxV, exIdxP, exBox, exAlloc, exLoad, exStore, exFieldA, exIdxA, exLen, exPick, exUn, exBeq, exMM, exSeq, seqGo, exExt, binV, intOp, subc, AV.solid, S0, encI, encB, e0, e1, e5, encIs, exSlc, bnd, hk, hT]
      rw [app_own (xs := (l.map encI).take k ++ [.v (.int .i64 n)])]
      · simp [Z0h, Z0c, Z0d, Z09, Z0a, Z0i, Z0b, Z0f, Z0g, Z2z, Z2y, Z07, Z08, Z06, Z01, Z02, Z00, Z04, Z05, Z03, Z1z, Z1y, Z46, Z48, Z47, Z45, Z1n, Z1o, Z1m, Z3n, Z3k, Z3m, Z3l, Z3o, Z1l, Z29, Z32, Z3x, Z1i, Z1j, Z1k, Z3v, Z3w, Z1g, Z28, Z1h, Z3i, Z3f, Z3h, Z3g, Z3j, Z41, Z40, Z0t, Z0u, Z0v, Z0s, Z1f, Z4c, Z4b, Z4d, Z4a, Z49, ex, Z43, Z42, ev_t, ev_c, Z27, Z26, Z4e, Z4f, Z2m, Z2l, Z2f, Z2j, Z2k, Z2g, Z2h, Z2i, putc, exBslice, lfill, exField, exIdxV, exIdxP, exBox, exAlloc, exLoad, exStore, exFieldA, exIdxA, exLen, exPick, exUn, exBeq, exMM, exSeq, seqGo, exExt, binV, intOp, subc, AV.solid, S0, encI, encB]
        have e : (l.take k ++ n :: l.drop k).map encI = (l.map encI).take k ++ AV.v (.int .i64 n) :: (l.map encI).drop k := by simp [List.map_take, List.map_drop, encI]
        rw [← e]
        exact Vec.fz (es := 1) (l := l.take k ++ n :: l.drop k) (Vec.mk' (by simp [Z4e, e]) (by simp; omega)) Z2r
      · simp [Z4e]
      · simp [hmin]
      · exact hcd
      · unfold appOk; rw [hlen2]; omega
    · simp [Z4e]
    · rw [hlen]
    · simp [AV.cells]
    · unfold appOk; simp; omega
theorem caesuraref01_put_body {P : Program} (l : List Int) (n : Int) (hl : l.length ≤ 100000) : AW P c_caesuraref01_put (RetK [4] (FzK (encIs (putF l n)))) (argF [encIs l, encI n]) S0 := by
  simp [Z0h, Z0c, Z0d, Z09, Z0a, Z0i, Z0b, Z0f, Z0g, Z2z, Z2y, Z07, Z08, Z06, Z01, Z02, Z00, Z04, Z05, Z03, Z1z, Z1y, Z46, Z48, Z47, Z45, Z1n, Z1o, Z1m, Z3n, Z3k, Z3m, Z3l, Z3o, Z1l, Z29, Z32, Z3x, Z1i, Z1j, Z1k, Z3v, Z3w, Z1g, Z28, Z1h, Z3i, Z3f, Z3h, Z3g, Z3j, Z41, Z40, Z0t, Z0u, Z0v, Z0s, Z1f, Z4c, Z4b, Z4d, Z4a, Z49, ex, Z43, Z42, ev_t, ev_c, Z27, Z26, Z4e, Z4f, Z2m, Z2l, Z2f, Z2j, Z2k, Z2g, Z2h, Z2i, putc, exBslice, lfill, exField, exIdxV, exIdxP, exBox, exAlloc, exLoad, exStore, exFieldA, exIdxA, exLen, exPick, exUn, exBeq, exMM, exSeq, seqGo, exExt, binV, intOp, subc, AV.solid, S0, encI, encB, c_caesuraref01_put]
  refine put_loop hl (l := l) (n := n) ?_ ?_
  · refine ⟨0, by omega, rfl, ?_, ?_, ?_, fun j _ hj => by omega⟩ <;> simp [Z43, Z27, Z26, encI]
  · intro f S k hk e0 e1 e5 h1 h2
    have hput := putF_at n l k hk h1 h2
    have e0' : f 0 = .sl false (l.map encI) := e0
    by_cases hlt : k < l.length
    · have hI : (k : Int) < l.length := by omega
      have hg : l[k]? = some l[k] := List.getElem?_eq_getElem hlt
      rw [hg] at hput
      by_cases he : l[k] = n
      · have hc : (l[k] == n) = true := by simp [he]
        rw [if_pos (by rw [he])] at hput
        rw [hput]
        simp [Z0h, Z0c, Z0d, Z09, Z0a, Z0i, Z0b, Z0f, Z0g, Z2z, Z2y, Z07, Z08, Z06, Z01, Z02, Z00, Z04, Z05, Z03, Z1z, Z1y, Z46, Z48, Z47, Z45, Z1n, Z1o, Z1m, Z3n, Z3k, Z3m, Z3l, Z3o, Z1l, Z29, Z32, Z3x, Z1i, Z1j, Z1k, Z3v, Z3w, Z1g, Z28, Z1h, Z3i, Z3f, Z3h, Z3g, Z3j, Z41, Z40, Z0t, Z0u, Z0v, Z0s, Z1f, Z4c, Z4b, Z4d, Z4a, Z49, ex, Z43, Z42, ev_t, ev_c, Z27, Z26, Z4e, Z4f, Z2m, Z2l, Z2f, Z2j, Z2k, Z2g, Z2h, Z2i, putc, exBslice, lfill, exField, exIdxV, exIdxP, exBox, exAlloc, exLoad, exStore, exFieldA, exIdxA, exLen, exPick, exUn, exBeq, exMM, exSeq, seqGo, exExt, binV, intOp, subc, AV.solid, S0, encI, encB, e0', e1, e5, hI, hlt, hg, hc]
        exact .closed _ (Z2s _)
      · have hc : (l[k] == n) = false := by simp [he]
        rw [if_neg (by simp [he])] at hput
        rw [hput]
        simp [Z0h, Z0c, Z0d, Z09, Z0a, Z0i, Z0b, Z0f, Z0g, Z2z, Z2y, Z07, Z08, Z06, Z01, Z02, Z00, Z04, Z05, Z03, Z1z, Z1y, Z46, Z48, Z47, Z45, Z1n, Z1o, Z1m, Z3n, Z3k, Z3m, Z3l, Z3o, Z1l, Z29, Z32, Z3x, Z1i, Z1j, Z1k, Z3v, Z3w, Z1g, Z28, Z1h, Z3i, Z3f, Z3h, Z3g, Z3j, Z41, Z40, Z0t, Z0u, Z0v, Z0s, Z1f, Z4c, Z4b, Z4d, Z4a, Z49, ex, Z43, Z42, ev_t, ev_c, Z27, Z26, Z4e, Z4f, Z2m, Z2l, Z2f, Z2j, Z2k, Z2g, Z2h, Z2i, putc, exBslice, lfill, exField, exIdxV, exIdxP, exBox, exAlloc, exLoad, exStore, exFieldA, exIdxA, exLen, exPick, exUn, exBeq, exMM, exSeq, seqGo, exExt, binV, intOp, subc, AV.solid, S0, encI, encB, e0', e1, e5, hI, hlt, hg, hc]
        refine put_tail hl hk ?_ ?_ ?_ <;> simp [Z43, e0, e1, e5]
    · have hI : ¬ (k : Int) < l.length := by omega
      rw [List.getElem?_eq_none (by omega), if_neg (by simp)] at hput
      rw [hput]
      simp [Z0h, Z0c, Z0d, Z09, Z0a, Z0i, Z0b, Z0f, Z0g, Z2z, Z2y, Z07, Z08, Z06, Z01, Z02, Z00, Z04, Z05, Z03, Z1z, Z1y, Z46, Z48, Z47, Z45, Z1n, Z1o, Z1m, Z3n, Z3k, Z3m, Z3l, Z3o, Z1l, Z29, Z32, Z3x, Z1i, Z1j, Z1k, Z3v, Z3w, Z1g, Z28, Z1h, Z3i, Z3f, Z3h, Z3g, Z3j, Z41, Z40, Z0t, Z0u, Z0v, Z0s, Z1f, Z4c, Z4b, Z4d, Z4a, Z49, ex, Z43, Z42, ev_t, ev_c, Z27, Z26, Z4e, Z4f, Z2m, Z2l, Z2f, Z2j, Z2k, Z2g, Z2h, Z2i, putc, exBslice, lfill, exField, exIdxV, exIdxP, exBox, exAlloc, exLoad, exStore, exFieldA, exIdxA, exLen, exPick, exUn, exBeq, exMM, exSeq, seqGo, exExt, binV, intOp, subc, AV.solid, S0, encI, encB, e0', e1, e5, hI, hlt]
      refine put_tail hl hk ?_ ?_ ?_ <;> simp [Z43, e0, e1, e5]
/-! ### the edges -/
def Iv (g : Nat → Option Blk) (v : AV) (l : List Int) : Prop := (∃ t, v = .sl t (l.map encI)) ∨ Vec g v 1 (l.map encI)
theorem Iv.frame {g g' : Nat → Option Blk} {v : AV} {l : List Int} (h : Iv g v l) (hs : ∀ i ∈ v.ids, g' i = g i) : Iv g' v l := by
  rcases h with h | h
  · exact .inl h
  · exact .inr (h.frame hs)
theorem Iv.fz {g : Nat → Option Blk} {v : AV} {l : List Int} (h : Iv g v l) : Fz g v (encIs l) := by
  rcases h with ⟨t, rfl⟩ | h
  · exact .loose t _ (closed_map Z2r l)
  · exact h.fz Z2r
theorem Iv.only {g : Nat → Option Blk} {v : AV} {l : List Int} (h : Iv g v l) : Iv (only v.ids g) v l := h.frame (fun i hi => by rw [only_g, if_pos hi])
def edge1 (out : List Int) (r : Rg) : List Int := if 0 ≤ r.low ∧ r.low ≤ 1114111 then putF out r.low else out
def edge2 (out : List Int) (r : Rg) : List Int := if -1 ≤ r.high ∧ r.high < 1114111 then putF out (r.high + 1) else out
def edgeS (out : List Int) (l : List Rg) : List Int := if l.length ≤ 400 then l.foldl (fun o r => edge2 (edge1 o r) r) out else out
def edgesF (sets : List (List Rg)) : List Int := sets.foldl edgeS [0]
theorem putF_len : ∀ (l : List Int) (n : Int), (putF l n).length ≤ l.length + 1
  | [], _ => by simp [putF]
  | x :: l, n => by
    simp only [putF]
    split
    · have := putF_len l n; simp; omega
    · split <;> simp
structure ER (sets : List (List Rg)) (i k c : Nat) (r : Rg) (cur : List Int) (f : AF) (S : St) : Prop where
  e0 : f 0 = encRss sets
  e4 : f 4 = encI i
  e5 : f 5 = encI k
  e6 : f 6 = .ptr c 0 0
  gc : S.g c = some (.arr 2 [encR r])
  v : Iv S.g (f 3) cur
  ids : ∀ x ∈ (f 3).ids, x < S.n ∧ x ≠ c
structure EB (sets : List (List Rg)) (i k : Nat) (cur : List Int) (f : AF) (S : St) : Prop where
  e0 : f 0 = encRss sets
  e4 : f 4 = encI i
  e5 : f 5 = encI k
  v : Iv S.g (f 3) cur
  ids : ∀ x ∈ (f 3).ids, x < S.n
end Go.Rf

set_option linter.unusedVariables false
set_option linter.unusedSimpArgs false
namespace Go.Rf
def c_slices_IndexFunc : AC :=
  (.seq (.reg none [
   ⟨(some 4), .mv (.c (.v (.int .i64 0))), none, none⟩])
  (.seq (.seq (.reg none [
   ⟨(some 6), .mv (.t 0), none, none⟩,
   ⟨(some 7), .len (.t 6), none, none⟩,
   ⟨(some 8), .mv (.c (.v (.int .i64 0))), none, none⟩])
  (.block 0 (.loop (.seq (.reg none [
     ⟨(some 9), .bin .lss (.t 8) (.t 7), none, none⟩])
    (.seq (.cond (.t 9) .skip (.exit 0))
    (.seq (.block 1 (.seq (.reg none [
      ⟨(some 10), .mv (.t 8), none, none⟩,
      ⟨(some 5), .mv (.t 10), none, none⟩])
     (.seq (.reg none [
      ⟨(some 11), .mv (.t 1), none, none⟩,
      ⟨(some 12), .mv (.t 0), none, none⟩,
      ⟨(some 13), .mv (.t 5), none, none⟩,
      ⟨(some 14), .idxA 1 (.t 12) (.t 13), none, none⟩,
      ⟨(some 15), .load none (.t 14), none, none⟩,
      ⟨(some 16), .mv (.c .junk), none, (some ((.t 11), [(.t 15)]))⟩])
     (.cond (.t 16) (.seq (.reg none [
       ⟨(some 17), .mv (.t 5), none, none⟩,
       ⟨(some 4), .mv (.t 17), none, none⟩])
      .ret) .skip))))
    (.reg none [
     ⟨(some 18), .bin .add (.t 8) (.c (.v (.int .i64 1))), none, none⟩,
     ⟨(some 8), .mv (.t 18), none, none⟩])))))))
  (.seq (.reg none [
   ⟨(some 4), .mv (.c (.v (.int .i64 (-1)))), none, none⟩])
  .ret)))
def c_slices_ContainsFunc (f_slices_IndexFunc : FuncId) : AC :=
  (.seq (.reg none [
   ⟨(some 4), .mv (.c (.v (.bool false))), none, none⟩])
  (.seq (.reg none [
   ⟨(some 5), .mv (.t 0), none, none⟩,
   ⟨(some 6), .mv (.t 1), none, none⟩,
   ⟨(some 7), .mv (.c .junk), none, (some ((.c (.clo f_slices_IndexFunc [] [])), [(.t 5), (.t 6)]))⟩,
   ⟨(some 8), .bin .geq (.t 7) (.c (.v (.int .i64 0))), none, none⟩,
   ⟨(some 4), .mv (.t 8), none, none⟩])
  .ret))
def idxF {X : Type} (p : X → Bool) (l : List X) : Int := if l.any p = true then (l.findIdx p : Int) else -1
def idxI {X : Type} (enc : X → AV) (l : List X) (p : X → Bool) (g : FuncId) (cap : List AV) (m : Nat) (f : AF) (S : St) : Prop :=
  ∃ i : Nat, i ≤ l.length ∧ m = l.length - i ∧ f 8 = encI i ∧ f 7 = encI l.length ∧ f 0 = .sl false (l.map enc) ∧ f 1 = .clo g [] cap ∧ ∀ k (h : k < l.length), k < i → p l[k] = false
theorem slices_IndexFunc_body {P : Program} {X : Type} {enc : X → AV} {l : List X} {p : X → Bool} {g : FuncId} {cap : List AV} (hl : Len l) (he : ∀ x, (enc x).cells = [enc x]) (hcl : ∀ x, Closed (enc x)) (hcap : ∀ y ∈ cap, Closed y)
    (hp : ∀ x ∈ l, PureC P g (enc x :: cap) (encB (p x))) : AW P c_slices_IndexFunc (RetK [4] (FzK (encI (idxF p l)))) (argF [.sl false (l.map enc), .clo g [] cap]) S0 := by
  unfold Len at hl
  simp [Z0h, Z0c, Z0d, Z09, Z0a, Z0i, Z0b, Z0f, Z0g, Z2z, Z2y, Z07, Z08, Z06, Z01, Z02, Z00, Z04, Z05, Z03, Z1z, Z1y, Z46, Z48, Z47, Z45, Z1n, Z1o, Z1m, Z3n, Z3k, Z3m, Z3l, Z3o, Z1l, Z29, Z32, Z3x, Z1i, Z1j, Z1k, Z3v, Z3w, Z1g, Z28, Z1h, Z3i, Z3f, Z3h, Z3g, Z3j, Z41, Z40, Z0t, Z0u, Z0v, Z0s, Z1f, Z4c, Z4b, Z4d, Z4a, Z49, ex, Z43, Z42, ev_t, ev_c, Z27, Z26, Z4e, Z4f, Z2m, Z2l, Z2f, Z2j, Z2k, Z2g, Z2h, Z2i, putc, exBslice, lfill, exField, exIdxV, exIdxP, exBox, exAlloc, exLoad, exStore, exFieldA, exIdxA, exLen, exPick, exUn, exBeq, exMM, exSeq, seqGo, exExt, binV, intOp, subc, AV.solid, S0, encI, encB, c_slices_IndexFunc]
  refine AW_loop (idxI enc l p g cap) l.length ?_ ?_
  · refine ⟨0, by omega, by omega, ?_, ?_, ?_, ?_, by omega⟩ <;> simp [Z43, Z27, Z26, encI]
  · rintro m f S ⟨i, hi, rfl, e8, e7, e0, e1, hq⟩
    by_cases hlt : i < l.length
    · simp [Z0h, Z0c, Z0d, Z09, Z0a, Z0i, Z0b, Z0f, Z0g, Z2z, Z2y, Z07, Z08, Z06, Z01, Z02, Z00, Z04, Z05, Z03, Z1z, Z1y, Z46, Z48, Z47, Z45, Z1n, Z1o, Z1m, Z3n, Z3k, Z3m, Z3l, Z3o, Z1l, Z29, Z32, Z3x, Z1i, Z1j, Z1k, Z3v, Z3w, Z1g, Z28, Z1h, Z3i, Z3f, Z3h, Z3g, Z3j, Z41, Z40, Z0t, Z0u, Z0v, Z0s, Z1f, Z4c, Z4b, Z4d, Z4a, Z49, ex, Z43, Z42, ev_t, ev_c, Z27, Z26, Z4e, Z4f, Z2m, Z2l, Z2f, Z2j, Z2k, Z2g, Z2h, Z2i, putc, exBslice, lfill, exField, exIdxV, exIdxP, exBox, exAlloc, exLoad, exStore, exFieldA, exIdxA, exLen, exPick, exUn, exBeq, exMM, exSeq, seqGo, exExt, binV, intOp, subc, AV.solid, S0, encI, encB, e8, e7, e0, e1, hlt, he]
      refine CallR.pure (hp _ (List.getElem_mem hlt)) (cl_cons (hcl _) hcap) (Z2o _) ?_
      cases hb : p l[i] with
      | true =>
        have hi2 : idxF p l = i := by
          have h1 : l.any p = true := List.any_eq_true.mpr ⟨_, List.getElem_mem hlt, hb⟩
          have h2 : l.findIdx p = i := (List.findIdx_eq hlt).mpr ⟨hb, fun j hj => hq j (by omega) hj⟩
          simp [idxF, h1, h2]
        simp [Z0h, Z0c, Z0d, Z09, Z0a, Z0i, Z0b, Z0f, Z0g, Z2z, Z2y, Z07, Z08, Z06, Z01, Z02, Z00, Z04, Z05, Z03, Z1z, Z1y, Z46, Z48, Z47, Z45, Z1n, Z1o, Z1m, Z3n, Z3k, Z3m, Z3l, Z3o, Z1l, Z29, Z32, Z3x, Z1i, Z1j, Z1k, Z3v, Z3w, Z1g, Z28, Z1h, Z3i, Z3f, Z3h, Z3g, Z3j, Z41, Z40, Z0t, Z0u, Z0v, Z0s, Z1f, Z4c, Z4b, Z4d, Z4a, Z49, ex, Z43, Z42, ev_t, ev_c, Z27, Z26, Z4e, Z4f, Z2m, Z2l, Z2f, Z2j, Z2k, Z2g, Z2h, Z2i, putc, exBslice, lfill, exField, exIdxV, exIdxP, exBox, exAlloc, exLoad, exStore, exFieldA, exIdxA, exLen, exPick, exUn, exBeq, exMM, exSeq, seqGo, exExt, binV, intOp, subc, AV.solid, S0, encI, encB, e8, e7, e0, e1, hi2]
        exact FzK_I _ _
      | false =>
        simp [Z0h, Z0c, Z0d, Z09, Z0a, Z0i, Z0b, Z0f, Z0g, Z2z, Z2y, Z07, Z08, Z06, Z01, Z02, Z00, Z04, Z05, Z03, Z1z, Z1y, Z46, Z48, Z47, Z45, Z1n, Z1o, Z1m, Z3n, Z3k, Z3m, Z3l, Z3o, Z1l, Z29, Z32, Z3x, Z1i, Z1j, Z1k, Z3v, Z3w, Z1g, Z28, Z1h, Z3i, Z3f, Z3h, Z3g, Z3j, Z41, Z40, Z0t, Z0u, Z0v, Z0s, Z1f, Z4c, Z4b, Z4d, Z4a, Z49, ex, Z43, Z42, ev_t, ev_c, Z27, Z26, Z4e, Z4f, Z2m, Z2l, Z2f, Z2j, Z2k, Z2g, Z2h, Z2i, putc, exBslice, lfill, exField, exIdxV, exIdxP, exBox, exAlloc, exLoad, exStore, exFieldA, exIdxA, exLen, exPick, exUn, exBeq, exMM, exSeq, seqGo, exExt, binV, intOp, subc, AV.solid, S0, encI, encB, e8, e7, e0, e1]
        rw [wrap_in _ (by omega)]
        refine ⟨l.length - (i + 1), by omega, i + 1, by omega, rfl, ?_, ?_, ?_, ?_, fun k h hk => ?_⟩
        · simp [Z43, encI]
        · simp [Z43, e7]
        · simp [Z43, e0]
        · simp [Z43, e1]
        · by_cases hki : k = i
          · subst hki; exact hb
          · exact hq k h (by omega)
    · have hi2 : idxF p l = -1 := by
        have h1 : l.any p = false := by
          rw [List.any_eq_false]
          intro x hx
          obtain ⟨k, hk, rfl⟩ := List.mem_iff_getElem.mp hx
          rw [hq k hk (by omega)]; simp
        simp [idxF, h1]
      simp [Z0h, Z0c, Z0d, Z09, Z0a, Z0i, Z0b, Z0f, Z0g, Z2z, Z2y, Z07, Z08, Z06, Z01, Z02, Z00, Z04, Z05, Z03, Z1z, Z1y, Z46, Z48, Z47, Z45, Z1n, Z1o, Z1m, Z3n, Z3k, Z3m, Z3l, Z3o, Z1l, Z29, Z32, Z3x, Z1i, Z1j, Z1k, Z3v, Z3w, Z1g, Z28, Z1h, Z3i, Z3f, Z3h, Z3g, Z3j, Z41, Z40, Z0t, Z0u, Z0v, Z0s, Z1f, Z4c, Z4b, Z4d, Z4a, Z49, ex, Z43, Z42, ev_t, ev_c, Z27, Z26, Z4e, Z4f, Z2m, Z2l, Z2f, Z2j, Z2k, Z2g, Z2h, Z2i, putc, exBslice, lfill, exField, exIdxV, exIdxP, exBox, exAlloc, exLoad, exStore, exFieldA, exIdxA, exLen, exPick, exUn, exBeq, exMM, exSeq, seqGo, exExt, binV, intOp, subc, AV.solid, S0, encI, encB, e8, e7, e0, e1, hlt, hi2]
      exact FzK_I _ _
theorem idxF_nonneg {X : Type} (p : X → Bool) (l : List X) : decide (0 ≤ idxF p l) = l.any p := by
  unfold idxF
  cases h : l.any p with
  | true => simp
  | false => simp
theorem slices_ContainsFunc_body {P : Program} {X : Type} {enc : X → AV} {l : List X} {p : X → Bool} {g : FuncId} {cap : List AV} (hcl : ∀ x, Closed (enc x)) (hcap : ∀ y ∈ cap, Closed y) {fi : FuncId}
    (hf : PureC P fi [.sl false (l.map enc), .clo g [] cap] (encI (idxF p l))) : AW P (c_slices_ContainsFunc fi) (RetK [4] (FzK (encB (l.any p)))) (argF [.sl false (l.map enc), .clo g [] cap]) S0 := by
  simp [Z0h, Z0c, Z0d, Z09, Z0a, Z0i, Z0b, Z0f, Z0g, Z2z, Z2y, Z07, Z08, Z06, Z01, Z02, Z00, Z04, Z05, Z03, Z1z, Z1y, Z46, Z48, Z47, Z45, Z1n, Z1o, Z1m, Z3n, Z3k, Z3m, Z3l, Z3o, Z1l, Z29, Z32, Z3x, Z1i, Z1j, Z1k, Z3v, Z3w, Z1g, Z28, Z1h, Z3i, Z3f, Z3h, Z3g, Z3j, Z41, Z40, Z0t, Z0u, Z0v, Z0s, Z1f, Z4c, Z4b, Z4d, Z4a, Z49, ex, Z43, Z42, ev_t, ev_c, Z27, Z26, Z4e, Z4f, Z2m, Z2l, Z2f, Z2j, Z2k, Z2g, Z2h, Z2i, putc, exBslice, lfill, exField, exIdxV, exIdxP, exBox, exAlloc, exLoad, exStore, exFieldA, exIdxA, exLen, exPick, exUn, exBeq, exMM, exSeq, seqGo, exExt, binV, intOp, subc, AV.solid, S0, encI, encB, c_slices_ContainsFunc]
  refine CallR.pure hf (cl_cons (closed_map hcl l) (cl_cons (.clo _ _ _ cl_nil hcap) cl_nil)) (Z2r _) ?_
  simp [Z0h, Z0c, Z0d, Z09, Z0a, Z0i, Z0b, Z0f, Z0g, Z2z, Z2y, Z07, Z08, Z06, Z01, Z02, Z00, Z04, Z05, Z03, Z1z, Z1y, Z46, Z48, Z47, Z45, Z1n, Z1o, Z1m, Z3n, Z3k, Z3m, Z3l, Z3o, Z1l, Z29, Z32, Z3x, Z1i, Z1j, Z1k, Z3v, Z3w, Z1g, Z28, Z1h, Z3i, Z3f, Z3h, Z3g, Z3j, Z41, Z40, Z0t, Z0u, Z0v, Z0s, Z1f, Z4c, Z4b, Z4d, Z4a, Z49, ex, Z43, Z42, ev_t, ev_c, Z27, Z26, Z4e, Z4f, Z2m, Z2l, Z2f, Z2j, Z2k, Z2g, Z2h, Z2i, putc, exBslice, lfill, exField, exIdxV, exIdxP, exBox, exAlloc, exLoad, exStore, exFieldA, exIdxA, exLen, exPick, exUn, exBeq, exMM, exSeq, seqGo, exExt, binV, intOp, subc, AV.solid, S0, encI, encB]
  rw [← idxF_nonneg p l]
  exact FzK_B _ _
end Go.Rf


set_option linter.unusedVariables false
set_option linter.unusedSimpArgs false
namespace Go.Rf
def condK (kind : Int) (x y : Bool) : Bool := (kind == 0 && (!x && !y)) || (kind == 1 && (!x || !y)) || (kind == 2 && (!x || y))
def lastR (out : List Rg) : Rg := out.getD (out.length - 1) ⟨0, 0⟩
def addR (out : List Rg) (lo hi : Int) : List Rg := if 0 < out.length ∧ (lastR out).high + 1 = lo then out.set (out.length - 1) ⟨(lastR out).low, hi⟩ else out ++ [⟨lo, hi⟩]
def toE (e : List Int) (i : Nat) : Int := if i + 1 < e.length then e.getD (i + 1) 0 - 1 else 1114111
def made1 (a b : List Rg) (kind : Int) (e : List Int) (out : List Rg) (i : Nat) : List Rg :=
  if condK kind (hasR a (e.getD i 0)) (hasR b (e.getD i 0)) = true then out else addR out (e.getD i 0) (toE e i)
def madeF (a b : List Rg) (kind : Int) : List Rg := (List.range (edgesF [a, b]).length).foldl (made1 a b kind (edgesF [a, b])) []
/-- What made has so far. -/
structure MSt (a b : List Rg) (kind : Int) (e : List Int) (i : Nat) (out : List Rg) (f : AF) (S : St) : Prop where
  e0 : f 0 = encRs a
  e1 : f 1 = encRs b
  e2 : f 2 = encI kind
  e8 : f 8 = encIs e
  e9 : f 9 = encI i
  v : (f 7 = .sl true [] ∧ out = []) ∨ ∃ id, f 7 = .own id 0 out.length ∧ S.g id = some (.arr 2 (out.map encR)) ∧ 0 < out.length
theorem MSt.vec {a b : List Rg} {kind : Int} {e : List Int} {i : Nat} {out : List Rg} {f : AF} {S : St} (h : MSt a b kind e i out f S) : Vec S.g (f 7) 2 (out.map encR) := by
  rcases h.v with ⟨h1, h2⟩ | ⟨id, h1, h2, _⟩
  · rw [h1, h2]; exact .nil
  · rw [h1]; exact .mk' h2 (by simp)
theorem MSt.same {a b : List Rg} {kind : Int} {e : List Int} {i : Nat} {out : List Rg} {f f' : AF} {S S' : St} (h : MSt a b kind e i out f S) (hf : ∀ j, j = 0 ∨ j = 1 ∨ j = 2 ∨ j = 7 ∨ j = 8 ∨ j = 9 → f' j = f j) (hg : S'.g = S.g) : MSt a b kind e i out f' S' :=
  ⟨by rw [hf 0 (by simp), h.e0], by rw [hf 1 (by simp), h.e1], by rw [hf 2 (by simp), h.e2], by rw [hf 8 (by simp), h.e8], by rw [hf 9 (by simp), h.e9], by rw [hf 7 (by simp), hg]; exact h.v⟩
theorem mem_putF {n x : Int} : ∀ {l : List Int}, x ∈ putF l n ↔ x = n ∨ x ∈ l
  | [] => by simp [putF]
  | y :: l => by
    simp only [putF]
    split
    · rw [List.mem_cons, mem_putF, List.mem_cons]
      constructor
      · rintro (h | h | h) <;> simp [h]
      · rintro (h | h | h) <;> simp [h]
    · split
      · rename_i h; subst h
        constructor
        · intro h; exact .inr h
        · rintro (h | h)
          · rw [h]; exact List.mem_cons_self ..
          · exact h
      · rw [List.mem_cons]
end Go.Rf


set_option linter.unusedVariables false
set_option linter.unusedSimpArgs false
namespace Go.Rf
def andF (a b : List Rg) : List Rg := madeF a b 1
def plainF (l : List Rg) : List Rg := madeF l [] 0
def firstF (l : List Rg) : Int := match plainF l with | [] => -1 | r :: _ => r.low
def rightF (l : List Rg) : Bool := decide (l.length ≤ 400) && decide (plainF l = l)
def sizeW (n : Int) (r : Rg) : Int := IntKind.i64.wrap (IntKind.i64.wrap (IntKind.i64.wrap (n + r.high) - r.low) + 1)
def sizeF (l : List Rg) : Int := (plainF l).foldl sizeW 0
structure RAC (P : Program) (ff fr fs fa : FuncId) : Prop where
  f : ∀ l, PureC P ff [encRs l] (encI (firstF l))
  r : ∀ l, PureC P fr [encRs l] (encB (rightF l))
  s : ∀ l, PureC P fs [encRs l] (encI (sizeF l))
  a : ∀ a b, PureC P fa [encRs a, encRs b] (encRs (andF a b))
end Go.Rf


set_option linter.unusedVariables false
set_option linter.unusedSimpArgs false
namespace Go.Rf
theorem putF_sorted {n : Int} : ∀ {l : List Int}, l.Pairwise (· < ·) → (putF l n).Pairwise (· < ·)
  | [], _ => by simp [putF]
  | x :: l, h => by
    obtain ⟨h1, h2⟩ := List.pairwise_cons.mp h
    simp only [putF]
    split
    · rename_i hx
      refine List.pairwise_cons.mpr ⟨fun y hy => ?_, putF_sorted h2⟩
      rcases mem_putF.mp hy with h3 | h3
      · omega
      · exact h1 y h3
    · split
      · exact h
      · refine List.pairwise_cons.mpr ⟨fun y hy => ?_, h⟩
        rcases List.mem_cons.mp hy with h3 | h3
        · omega
        · have := h1 y h3; omega
/-! ### rising, apart, and below a bound -/
structure Canon (l : List Rg) (B : Int) : Prop where
  pw : l.Pairwise (fun x y => x.high + 1 < y.low)
  at_ : ∀ r ∈ l, 0 ≤ r.low ∧ r.low ≤ r.high ∧ r.high < B
theorem Canon.mono {l : List Rg} {B C : Int} (h : Canon l B) (hb : B ≤ C) : Canon l C := ⟨h.pw, fun r hr => by have := h.at_ r hr; omega⟩
/-- What is right: each is rising, none has another one's. -/
structure RightP (atoms : List (List Rg)) : Prop where
  len : atoms.length ≤ 200
  ok : ∀ a ∈ atoms, a.length ≤ 400 ∧ a ≠ [] ∧ Canon a 1114112
  dis : ∀ j k (hj : j < atoms.length) (hk : k < atoms.length), j < k → ∀ c, ¬ (hasR atoms[k] c = true ∧ hasR atoms[j] c = true)
end Go.Rf

