import Derived.Test.YtidkjfaeolfcaaaGreatRfCell
import Derived.Test.YtidkjfaeolfcaaaGreatRfB7
import Derived.Test.YtidkjfaeolfcaaaGreatRfB8
import Derived.Test.YtidkjfaeolfcaaaGreatRfKl
set_option linter.unusedVariables false
set_option linter.unusedSimpArgs false
namespace Go.Rf
/-! ### which of two lists stands ahead -/
theorem cmpI_swap (x y : Int) : cmpI y x = - cmpI x y := by unfold cmpI; split <;> split <;> first | omega | rfl | (split <;> omega)
theorem cmpL_swap : ∀ a b : List Int, cmpL b a = - cmpL a b
  | [], [] => rfl
  | [], _ :: _ => rfl
  | _ :: _, [] => rfl
  | x :: a, y :: b => by
    simp only [cmpL]
    rw [cmpI_swap x y, cmpL_swap a b]
    split <;> split <;> first | rfl | omega
def ordL (a b : List Int) : Int := orL [cmpI a.length b.length, cmpL a b]
theorem ordL_def (a b : List Int) : ordL a b = if cmpI a.length b.length ≠ 0 then cmpI a.length b.length else cmpL a b := by
  simp only [ordL, orL]
  split
  · rfl
  · split
    · rfl
    · rename_i h; exact (Decidable.not_not.mp h).symm
theorem ordL_swap (a b : List Int) : ordL b a = - ordL a b := by
  rw [ordL_def, ordL_def, cmpI_swap (a.length) (b.length), cmpL_swap a b]
  split <;> split <;> first | rfl | omega
section
variable {P : Program} {fl fi fb fw : FuncId} {a b : List Int} {place : Int}
end
end Go.Rf


set_option linter.unusedVariables false
set_option linter.unusedSimpArgs false
namespace Go.Rf
def c_wit_compare (f_cmp_Compare_int_ f_slices_Compare_Sint_int_ f_cmp_Or_int_ : FuncId) : AC :=
  (.seq (.reg none [
   ⟨(some 2), .box 2 (.t 0), none, none⟩,
   ⟨(some 3), .box 2 (.t 1), none, none⟩,
   ⟨(some 4), .mv (.c (.v (.int .i64 0))), none, none⟩])
  (.seq (.reg (some []) [
   ⟨(some 5), .fieldA 0 (.t 2), none, none⟩,
   ⟨(some 6), .load none (.t 5), none, none⟩,
   ⟨(some 7), .len (.t 6), none, none⟩,
   ⟨(some 8), .fieldA 0 (.t 3), none, none⟩,
   ⟨(some 9), .load none (.t 8), none, none⟩,
   ⟨(some 10), .len (.t 9), none, none⟩,
   ⟨(some 11), .mv (.c .junk), none, (some ((.c (.clo f_cmp_Compare_int_ [] [])), [(.t 7), (.t 10)]))⟩,
   ⟨(some 12), .fieldA 0 (.t 2), none, none⟩,
   ⟨(some 13), .load none (.t 12), none, none⟩,
   ⟨(some 14), .fieldA 0 (.t 3), none, none⟩,
   ⟨(some 15), .load none (.t 14), none, none⟩,
   ⟨(some 16), .mv (.c .junk), none, (some ((.c (.clo f_slices_Compare_Sint_int_ [] [])), [(.t 13), (.t 15)]))⟩,
   ⟨(some 17), .fieldA 1 (.t 2), none, none⟩,
   ⟨(some 18), .load none (.t 17), none, none⟩,
   ⟨(some 19), .fieldA 1 (.t 3), none, none⟩,
   ⟨(some 20), .load none (.t 19), none, none⟩,
   ⟨(some 21), .mv (.c .junk), none, (some ((.c (.clo f_cmp_Compare_int_ [] [])), [(.t 18), (.t 20)]))⟩,
   ⟨(some 22), .bslice 1 3 (.v (.int .i64 0)) [(0, (.t 11)), (1, (.t 16)), (2, (.t 21))], none, none⟩,
   ⟨(some 23), .mv (.c .junk), none, (some ((.c (.clo f_cmp_Or_int_ [] [])), [(.t 22)]))⟩,
   ⟨(some 4), .mv (.t 23), none, none⟩])
  .ret))
def c_wit_Before (f_wit_compare : FuncId) : AC :=
  (.seq (.reg none [
   ⟨(some 2), .box 2 (.t 0), none, none⟩,
   ⟨(some 3), .box 2 (.t 1), none, none⟩,
   ⟨(some 4), .mv (.c (.v (.bool false))), none, none⟩])
  (.seq (.reg none [
   ⟨(some 5), .load (some 2) (.t 2), none, none⟩,
   ⟨(some 6), .load (some 2) (.t 3), none, none⟩,
   ⟨(some 7), .mv (.c .junk), none, (some ((.c (.clo f_wit_compare [] [])), [(.t 5), (.t 6)]))⟩,
   ⟨(some 8), .bin .lss (.t 7) (.c (.v (.int .i64 0))), none, none⟩,
   ⟨(some 4), .mv (.t 8), none, none⟩])
  .ret))
structure Wit where
  text : List Int
  place : Int
def encWj (w : Wit) : AV := .agg [encIs w.text, encI w.place]
theorem closed_W (w : Wit) : Closed (encWj w) := .agg _ (by
  intro y hy
  simp only [List.mem_cons, List.not_mem_nil, or_false] at hy
  rcases hy with rfl | rfl
  · exact Z2s _
  · exact Z2r _)
def ordW (a b : Wit) : Int := orL [cmpI a.text.length b.text.length, cmpL a.text b.text, cmpI a.place b.place]
def beforeW (a b : Wit) : Bool := decide (ordW a b < 0)
theorem ordW_def (a b : Wit) : ordW a b = if ordL a.text b.text ≠ 0 then ordL a.text b.text else cmpI a.place b.place := by
  rw [ordL_def]
  simp only [ordW, orL]
  by_cases h1 : cmpI a.text.length b.text.length = 0
  · simp only [h1, ne_eq, not_true_eq_false, if_false]
    by_cases h2 : cmpL a.text b.text = 0
    · simp only [h2, ne_eq, not_true_eq_false, if_false]
      by_cases h3 : cmpI a.place b.place = 0
      · simp [h3]
      · simp [h3]
    · simp [h2]
  · simp [h1]
theorem ordW_swap (a b : Wit) : ordW b a = - ordW a b := by
  rw [ordW_def, ordW_def, ordL_swap a.text b.text, cmpI_swap a.place b.place]
  split <;> split <;> first | rfl | omega
theorem wit_compare_body {P : Program} {f1 f2 f3 : FuncId} (a b : Wit) (h1 : ∀ x y, PureC P f1 [encI x, encI y] (encI (cmpI x y))) (h2 : PureC P f2 [encIs a.text, encIs b.text] (encI (cmpL a.text b.text)))
    (h3 : ∀ l, Len l → PureC P f3 [.sl true (l.map encI)] (encI (orL l))) : AW P (c_wit_compare f1 f2 f3) (RetK [4] (FzK (encI (ordW a b)))) (argF [encWj a, encWj b]) S0 := by
  have d1 : ∀ n g, CallD P f1 [.v (.int .i64 a.text.length), .v (.int .i64 b.text.length)] ⟨n, g⟩ [] (encI (cmpI a.text.length b.text.length)) := fun n g => CallD.kl (h1 _ _) (cl_cons (Z2r _) (cl_cons (Z2r _) cl_nil)) (Z2r _)
  have d2 : ∀ n g, CallD P f2 [.sl false (a.text.map encI), .sl false (b.text.map encI)] ⟨n, g⟩ [] (encI (cmpL a.text b.text)) := fun n g => CallD.kl h2 (cl_cons (Z2s _) (cl_cons (Z2s _) cl_nil)) (Z2r _)
  have d3 : ∀ n g, CallD P f1 [.v (.int .i64 a.place), .v (.int .i64 b.place)] ⟨n, g⟩ [] (encI (cmpI a.place b.place)) := fun n g => CallD.kl (h1 _ _) (cl_cons (Z2r _) (cl_cons (Z2r _) cl_nil)) (Z2r _)
  have d4 : ∀ n g, CallD P f3 [.sl true [encI (cmpI a.text.length b.text.length), encI (cmpL a.text b.text), encI (cmpI a.place b.place)]] ⟨n, g⟩ [] (encI (ordW a b)) :=
    fun n g => CallD.kl (h3 [cmpI a.text.length b.text.length, cmpL a.text b.text, cmpI a.place b.place] (by simp [Len])) (cl_cons (closed_map Z2r [cmpI a.text.length b.text.length, cmpL a.text b.text, cmpI a.place b.place]) cl_nil) (Z2r _)
  simp [Z0h, Z0c, Z0d, Z09, Z0a, Z0i, Z0b, Z0f, Z0g, Z2z, Z2y, Z07, Z08, Z06, Z01, Z02, Z00, Z04, Z05, Z03, Z1z, Z1y, Z46, Z48, Z47, Z45, Z1n, Z1o, Z1m, Z3n, Z3k, Z3m, Z3l, Z3o, Z1l, Z29, Z32, Z3x, Z1i, Z1j, Z1k, Z3v, Z3w, Z1g, Z28, Z1h, Z3i, Z3f, Z3h, Z3g, Z3j, Z41, Z40, Z0t, Z0u, Z0v, Z0s, Z1f, Z4c, Z4b, Z4d, Z4a, Z49, ex, Z43, Z42, ev_t, ev_c, Z27, Z26, Z4e, Z4f, Z2m, Z2l, Z2f, Z2j, Z2k, Z2g, Z2h, Z2i, putc, exBslice, lfill, exField, exIdxV, exIdxP, exBox, exAlloc, exLoad, exStore, exFieldA, exIdxA, exLen, exPick, exUn, exBeq, exMM, exSeq, seqGo, exExt, binV, intOp, subc, AV.solid, S0, encI, encB, c_wit_compare, encWj, encIs]
  refine ⟨_, ⟨_, d1 _ _⟩, _, ⟨_, d2 _ _⟩, _, ⟨_, d3 _ _⟩, ?_⟩
  simp [Z0h, Z0c, Z0d, Z09, Z0a, Z0i, Z0b, Z0f, Z0g, Z2z, Z2y, Z07, Z08, Z06, Z01, Z02, Z00, Z04, Z05, Z03, Z1z, Z1y, Z46, Z48, Z47, Z45, Z1n, Z1o, Z1m, Z3n, Z3k, Z3m, Z3l, Z3o, Z1l, Z29, Z32, Z3x, Z1i, Z1j, Z1k, Z3v, Z3w, Z1g, Z28, Z1h, Z3i, Z3f, Z3h, Z3g, Z3j, Z41, Z40, Z0t, Z0u, Z0v, Z0s, Z1f, Z4c, Z4b, Z4d, Z4a, Z49, ex, Z43, Z42, ev_t, ev_c, Z27, Z26, Z4e, Z4f, Z2m, Z2l, Z2f, Z2j, Z2k, Z2g, Z2h, Z2i, putc, exBslice, lfill, exField, exIdxV, exIdxP, exBox, exAlloc, exLoad, exStore, exFieldA, exIdxA, exLen, exPick, exUn, exBeq, exMM, exSeq, seqGo, exExt, binV, intOp, subc, AV.solid, S0, encI, encB]
  refine ⟨_, ⟨_, d4 _ _⟩, ?_⟩
  simp [Z0h, Z0c, Z0d, Z09, Z0a, Z0i, Z0b, Z0f, Z0g, Z2z, Z2y, Z07, Z08, Z06, Z01, Z02, Z00, Z04, Z05, Z03, Z1z, Z1y, Z46, Z48, Z47, Z45, Z1n, Z1o, Z1m, Z3n, Z3k, Z3m, Z3l, Z3o, Z1l, Z29, Z32, Z3x, Z1i, Z1j, Z1k, Z3v, Z3w, Z1g, Z28, Z1h, Z3i, Z3f, Z3h, Z3g, Z3j, Z41, Z40, Z0t, Z0u, Z0v, Z0s, Z1f, Z4c, Z4b, Z4d, Z4a, Z49, ex, Z43, Z42, ev_t, ev_c, Z27, Z26, Z4e, Z4f, Z2m, Z2l, Z2f, Z2j, Z2k, Z2g, Z2h, Z2i, putc, exBslice, lfill, exField, exIdxV, exIdxP, exBox, exAlloc, exLoad, exStore, exFieldA, exIdxA, exLen, exPick, exUn, exBeq, exMM, exSeq, seqGo, exExt, binV, intOp, subc, AV.solid, S0, encI, encB]
  exact FzK_I _ _
theorem wit_Before_body {P : Program} {f1 : FuncId} (a b : Wit) (h : PureC P f1 [encWj a, encWj b] (encI (ordW a b))) : AW P (c_wit_Before f1) (RetK [4] (FzK (encB (beforeW a b)))) (argF [encWj a, encWj b]) S0 := by
  have cW := closed_W
  simp only [encWj] at h cW
  simp [Z0h, Z0c, Z0d, Z09, Z0a, Z0i, Z0b, Z0f, Z0g, Z2z, Z2y, Z07, Z08, Z06, Z01, Z02, Z00, Z04, Z05, Z03, Z1z, Z1y, Z46, Z48, Z47, Z45, Z1n, Z1o, Z1m, Z3n, Z3k, Z3m, Z3l, Z3o, Z1l, Z29, Z32, Z3x, Z1i, Z1j, Z1k, Z3v, Z3w, Z1g, Z28, Z1h, Z3i, Z3f, Z3h, Z3g, Z3j, Z41, Z40, Z0t, Z0u, Z0v, Z0s, Z1f, Z4c, Z4b, Z4d, Z4a, Z49, ex, Z43, Z42, ev_t, ev_c, Z27, Z26, Z4e, Z4f, Z2m, Z2l, Z2f, Z2j, Z2k, Z2g, Z2h, Z2i, putc, exBslice, lfill, exField, exIdxV, exIdxP, exBox, exAlloc, exLoad, exStore, exFieldA, exIdxA, exLen, exPick, exUn, exBeq, exMM, exSeq, seqGo, exExt, binV, intOp, subc, AV.solid, S0, encI, encB, c_wit_Before, encWj]
  refine CallR.pure h (cl_cons (cW a) (cl_cons (cW b) cl_nil)) (Z2r _) ?_
  simp [Z0h, Z0c, Z0d, Z09, Z0a, Z0i, Z0b, Z0f, Z0g, Z2z, Z2y, Z07, Z08, Z06, Z01, Z02, Z00, Z04, Z05, Z03, Z1z, Z1y, Z46, Z48, Z47, Z45, Z1n, Z1o, Z1m, Z3n, Z3k, Z3m, Z3l, Z3o, Z1l, Z29, Z32, Z3x, Z1i, Z1j, Z1k, Z3v, Z3w, Z1g, Z28, Z1h, Z3i, Z3f, Z3h, Z3g, Z3j, Z41, Z40, Z0t, Z0u, Z0v, Z0s, Z1f, Z4c, Z4b, Z4d, Z4a, Z49, ex, Z43, Z42, ev_t, ev_c, Z27, Z26, Z4e, Z4f, Z2m, Z2l, Z2f, Z2j, Z2k, Z2g, Z2h, Z2i, putc, exBslice, lfill, exField, exIdxV, exIdxP, exBox, exAlloc, exLoad, exStore, exFieldA, exIdxA, exLen, exPick, exUn, exBeq, exMM, exSeq, seqGo, exExt, binV, intOp, subc, AV.solid, S0, encI, encB]
  exact FzK_B _ _
theorem beforeW_of {a b : Wit} (h : ordW a b ≤ 0) : beforeW b a = false := by
  have := ordW_swap a b
  simp only [beforeW, decide_eq_false_iff_not]; omega
end Go.Rf

