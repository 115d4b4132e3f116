import Derived.Test.YtnlhbognechhcaaRfN1
/- Own work: slices.Grow from nothing, slices.Concat, at lists of whatever elements. -/
set_option linter.unusedVariables false
set_option linter.unusedSimpArgs false
namespace Go.Rf
open Go.RowKit

def c_Grow (es by_ : Nat) (z : AV) : AC :=
  (.seq (.reg none [
   ⟨(some 4), .mv (.c (.sl true [])), none, none⟩])
  (.seq (.seq (.reg none [
   ⟨(some 5), .mv (.t 1), none, none⟩,
   ⟨(some 6), .bin .lss (.t 5) (.c (.v (.int .i64 0))), none, none⟩])
  (.cond (.t 6) .bad .skip))
  (.seq (.seq (.reg none [
   ⟨(some 8), .mv (.t 1), none, none⟩,
   ⟨(some 9), .mv (.t 0), none, none⟩,
   ⟨(some 10), .cap (.t 9), none, none⟩,
   ⟨(some 11), .mv (.t 0), none, none⟩,
   ⟨(some 12), .len (.t 11), none, none⟩,
   ⟨(some 13), .bin .sub (.t 10) (.t 12), none, none⟩,
   ⟨(some 14), .bin .sub (.t 8) (.t 13), none, none⟩,
   ⟨(some 1), .mv (.t 14), none, none⟩])
  (.seq (.reg none [
   ⟨(some 15), .mv (.t 1), none, none⟩,
   ⟨(some 16), .bin .gtr (.t 15) (.c (.v (.int .i64 0))), none, none⟩])
  (.cond (.t 16) (.reg none [
    ⟨(some 17), .mv (.t 0), none, none⟩,
    ⟨(some 18), .mv (.t 0), none, none⟩,
    ⟨(some 19), .cap (.t 18), none, none⟩,
    ⟨(some 20), .slc es (.t 17) none (some (.t 19)), none, none⟩,
    ⟨(some 21), .mv (.t 1), none, none⟩,
    ⟨(some 22), .appz es by_ z (.t 20) (.t 21), none, none⟩,
    ⟨(some 23), .mv (.t 0), none, none⟩,
    ⟨(some 24), .len (.t 23), none, none⟩,
    ⟨(some 25), .slc es (.t 22) none (some (.t 24)), none, none⟩,
    ⟨(some 0), .mv (.t 25), none, none⟩]) .skip)))
  (.seq (.reg none [
   ⟨(some 26), .mv (.t 0), none, none⟩,
   ⟨(some 4), .mv (.t 26), none, none⟩])
  .ret))))
def c_Concat (es by_ : Nat) (fg : FuncId) : AC :=
  (.seq (.reg none [
   ⟨(some 2), .mv (.c (.sl true [])), none, none⟩])
  (.seq (.reg none [
   ⟨(some 3), .mv (.c (.v (.int .i64 0))), none, none⟩])
  (.seq (.seq (.reg none [
   ⟨(some 9), .mv (.t 0), none, none⟩,
   ⟨(some 10), .len (.t 9), none, none⟩,
   ⟨(some 11), .mv (.c (.v (.int .i64 0))), none, none⟩])
  (.block 0 (.loop (.seq (.reg none [
     ⟨(some 12), .bin .lss (.t 11) (.t 10), none, none⟩])
    (.seq (.cond (.t 12) .skip (.exit 0))
    (.seq (.block 1 (.seq (.reg none [
      ⟨(some 13), .idxA 1 (.t 9) (.t 11), none, none⟩,
      ⟨(some 14), .load none (.t 13), none, none⟩,
      ⟨(some 5), .mv (.t 14), none, none⟩])
     (.seq (.reg none [
      ⟨(some 15), .mv (.t 3), none, none⟩,
      ⟨(some 16), .mv (.t 5), none, none⟩,
      ⟨(some 17), .len (.t 16), none, none⟩,
      ⟨(some 18), .bin .add (.t 15) (.t 17), none, none⟩,
      ⟨(some 3), .mv (.t 18), none, none⟩])
     (.seq (.reg none [
      ⟨(some 19), .mv (.t 3), none, none⟩,
      ⟨(some 20), .bin .lss (.t 19) (.c (.v (.int .i64 0))), none, none⟩])
     (.cond (.t 20) .bad .skip)))))
    (.reg none [
     ⟨(some 22), .bin .add (.t 11) (.c (.v (.int .i64 1))), none, none⟩,
     ⟨(some 11), .mv (.t 22), none, none⟩])))))))
  (.seq (.reg none [
   ⟨(some 23), .mv (.t 3), none, none⟩,
   ⟨(some 24), .mv (.c .junk), none, (some ((.c (.clo fg [] [])), [(.c (.sl true [])), (.t 23)]))⟩,
   ⟨(some 6), .mv (.t 24), none, none⟩])
  (.seq (.seq (.reg none [
   ⟨(some 25), .mv (.t 0), none, none⟩,
   ⟨(some 26), .len (.t 25), none, none⟩,
   ⟨(some 27), .mv (.c (.v (.int .i64 0))), none, none⟩])
  (.block 2 (.loop (.seq (.reg none [
     ⟨(some 28), .bin .lss (.t 27) (.t 26), none, none⟩])
    (.seq (.cond (.t 28) .skip (.exit 2))
    (.seq (.block 3 (.seq (.reg none [
      ⟨(some 29), .idxA 1 (.t 25) (.t 27), none, none⟩,
      ⟨(some 30), .load none (.t 29), none, none⟩,
      ⟨(some 8), .mv (.t 30), none, none⟩])
     (.reg none [
      ⟨(some 31), .mv (.t 6), none, none⟩,
      ⟨(some 32), .mv (.t 8), none, none⟩,
      ⟨(some 33), .app es by_ (.t 31) (.t 32), none, none⟩,
      ⟨(some 6), .mv (.t 33), none, none⟩])))
    (.reg none [
     ⟨(some 34), .bin .add (.t 27) (.c (.v (.int .i64 1))), none, none⟩,
     ⟨(some 27), .mv (.t 34), none, none⟩])))))))
  (.seq (.reg none [
   ⟨(some 35), .mv (.t 6), none, none⟩,
   ⟨(some 2), .mv (.t 35), none, none⟩])
  .ret))))))
/-- As Vec; the block may go on behind the list. -/
def VecP (g : Nat → Option Blk) (v : AV) (es : Nat) (xs : List AV) : Prop :=
  (v = .sl true [] ∧ xs = []) ∨ ∃ id off ys, v = .own id off xs.length ∧ g id = some (.arr es ys) ∧ off + xs.length ≤ ys.length ∧ (ys.take (off + xs.length)).drop off = xs
theorem VecP.frame {g g' : Nat → Option Blk} {v : AV} {es : Nat} {xs : List AV} (h : VecP g v es xs) (hs : ∀ i ∈ v.ids, g' i = g i) : VecP g' v es xs := by
  rcases h with h | ⟨id, off, ys, rfl, h1, h2, h3⟩
  · exact .inl h
  · exact .inr ⟨id, off, ys, rfl, by rw [hs id (by simp [AV.ids])]; exact h1, h2, h3⟩
theorem VecP.fz {X : Type} {enc : X → AV} {g : Nat → Option Blk} {v : AV} {es : Nat} {l : List X} (h : VecP g v es (l.map enc)) (hc : ∀ x, Closed (enc x)) : Fz g v (.sl false (l.map enc)) := by
  rcases h with ⟨rfl, hn⟩ | ⟨id, off, ys, rfl, h1, h2, h3⟩
  · rw [hn]; exact .loose true [] (.sl _ _ (by simp))
  · rw [List.length_map] at h2 h3 ⊢
    refine .own id off l.length es ys (l.map enc) h1 h2 (by simp) (fun i a b => ?_)
    have e : (ys.drop off).take l.length = l.map enc := by rw [← h3, List.drop_take]; congr 1; omega
    simp only [e]
    exact .closed _ (by simp only [List.getElem_map]; exact hc _)
def GrowOut (S : St) (es : Nat) (z : AV) (n : Nat) (v : AV) (S' : St) : Prop :=
  S.n ≤ S'.n ∧ (∀ i, i < S.n → S'.g i = S.g i) ∧ ((n = 0 ∧ v = .sl true []) ∨ ∃ id, S.n ≤ id ∧ id < S'.n ∧ v = .own id 0 0 ∧ S'.g id = some (.arr es (List.replicate n z)))
def HGrow (P : Program) (f : FuncId) (es : Nat) (z : AV) : Prop := ∀ (S : St) (n : Nat) (K : AV → St → Prop), n ≤ 1000000 → (∀ v S', GrowOut S es z n v S' → K v S') → CallR P f [.sl true [], encI n] S K
theorem HGrow_of {P : Program} (hm : P.follows .mixedOrders = true) {f : FuncId} {es by_ : Nat} {z : AV} (hes : 0 < es) (hz : z.cells.length = es) (hb : by_ ≤ 1000) (h : Is P f (c_Grow es by_ z) [4] 2) : HGrow P f es z := by
  intro S n K hn hk
  refine h.callR hm rfl ?_
  have hneg : ¬ ((n : Int) < 0) := by omega
  have hw1 := wrap_in ((n : Int) - 0) (by omega)
  have hw0 : IntKind.i64.wrap 0 = 0 := wrap_in 0 (by omega)
  by_cases h0 : n = 0
  · subst h0
    simp [Z0h, Z0c, Z0d, Z09, Z0a, Z0i, Z0b, Z0f, Z0g, Z2z, Z2y, Z07, Z08, Z06, Z01, Z02, Z00, Z04, Z05, Z03, Z1z, Z1y, Z46, Z48, Z47, Z45, Z1n, Z1o, Z1m, Z3n, Z3k, Z3m, Z3l, Z3o, Z1l, Z29, Z32, Z3x, Z1i, Z1j, Z1k, Z3v, Z3w, Z1g, Z28, Z1h, Z3i, Z3f, Z3h, Z3g, Z3j, Z41, Z40, Z0t, Z0u, Z0v, Z0s, Z1f, Z4c, Z4b, Z4d, Z4a, Z49, ex, Z43, Z42, ev_t, ev_c, Z27, Z26, Z4e, Z4f, Z2m, Z2l, Z2f, Z2j, Z2k, Z2g, Z2h, Z2i, putc, exBslice, lfill, exField, exIdxV, exIdxP, exBox, exAlloc, exLoad, exStore, exFieldA, exIdxA, exLen, exPick, exUn, exBeq, exMM, exSeq, seqGo, exExt, binV, intOp, subc, AV.solid, S0, encI, encB, c_Grow, exCap, hw0]
    exact hk _ _ ⟨by simp; omega, fun i hi => rfl, .inl ⟨rfl, rfl⟩⟩
  · have hp : (0 : Int) < n := by omega
    have hp' : 0 < n := by omega
    have hbnd : (n : Int) * by_ ≤ 140737488355328 := by
      have h1 : n * by_ ≤ 1000000 * 1000 := Nat.mul_le_mul hn hb
      have : ((n * by_ : Nat) : Int) ≤ 1000000000 := by omega
      rw [Int.natCast_mul] at this; omega
    have hn2 : (n : Int) ≤ 140737488355328 := by omega
    have hwn : IntKind.i64.wrap (n : Int) = n := wrap_in _ (by omega)
    have hapz : ∀ S2 : St, ∀ nid, (exAppz es by_ z (.sl true []) (.v (.int .i64 (n : Int)))).run S2 nid = some (.own nid 0 n, S2.set nid (some (.arr es (List.replicate n z)))) := by
      intro S2 nid
      simp [exAppz, Eff.new, Eff.run, hp, hp', hbnd, hn2, hes, hz, St.setL, St.setO]
    have hs1 : ∀ S2 : St, ∀ nid, (exSlc es (.sl true []) none (some (.v (.int .i64 0)))).run S2 nid = some (.sl true [], S2) := by
      intro S2 nid; simp [exSlc, bnd, Eff.run_val]
    have hs2 : ∀ (S2 : St) (nid id : Nat) (ys : List AV), S2.g id = some (.arr es ys) → (exSlc es (.own id 0 n) none (some (.v (.int .i64 0)))).run S2 nid = some (.own id 0 0, S2) := by
      intro S2 nid id ys hg
      simp [exSlc, bnd, Eff.rd, Eff.run, hg, St.setL, St.setO]
    simp [Z0h, Z0c, Z0d, Z09, Z0a, Z0i, Z0b, Z0f, Z0g, Z2z, Z2y, Z07, Z08, Z06, Z01, Z02, Z00, Z04, Z05, Z03, Z1z, Z1y, Z46, Z48, Z47, Z45, Z1n, Z1o, Z1m, Z3n, Z3k, Z3m, Z3l, Z3o, Z1l, Z29, Z32, Z3x, Z1i, Z1j, Z1k, Z3v, Z3w, Z1g, Z28, Z1h, Z3i, Z3f, Z3h, Z3g, Z3j, Z41, Z40, Z0t, Z0u, Z0v, Z0s, Z1f, Z4c, Z4b, Z4d, Z4a, Z49, ex, Z43, Z42, ev_t, ev_c, Z27, Z26, Z4e, Z4f, Z2m, Z2l, Z2f, Z2j, Z2k, Z2g, Z2h, Z2i, putc, exBslice, lfill, exField, exIdxV, exIdxP, exBox, exAlloc, exLoad, exStore, exFieldA, exIdxA, exLen, exPick, exUn, exBeq, exMM, exSeq, seqGo, exExt, binV, intOp, subc, AV.solid, S0, encI, encB, c_Grow, exCap, hneg, hw0, hw1, hwn, hp, hp', hs1, hapz, exLen]
    rw [hs2 _ _ _ (List.replicate n z) (by simp [Z4e])]
    simp [Z0h, Z0c, Z0d, Z09, Z0a, Z0i, Z0b, Z0f, Z0g, Z2z, Z2y, Z07, Z08, Z06, Z01, Z02, Z00, Z04, Z05, Z03, Z1z, Z1y, Z46, Z48, Z47, Z45, Z1n, Z1o, Z1m, Z3n, Z3k, Z3m, Z3l, Z3o, Z1l, Z29, Z32, Z3x, Z1i, Z1j, Z1k, Z3v, Z3w, Z1g, Z28, Z1h, Z3i, Z3f, Z3h, Z3g, Z3j, Z41, Z40, Z0t, Z0u, Z0v, Z0s, Z1f, Z4c, Z4b, Z4d, Z4a, Z49, ex, Z43, Z42, ev_t, ev_c, Z27, Z26, Z4e, Z4f, Z2m, Z2l, Z2f, Z2j, Z2k, Z2g, Z2h, Z2i, putc, exBslice, lfill, exField, exIdxV, exIdxP, exBox, exAlloc, exLoad, exStore, exFieldA, exIdxA, exLen, exPick, exUn, exBeq, exMM, exSeq, seqGo, exExt, binV, intOp, subc, AV.solid, S0, encI, encB]
    refine hk _ _ ⟨by simp [Z4f]; omega, fun i hi => ?_, .inr ⟨S.n + 13 + 5, by omega, by simp [Z4f], rfl, by simp [Z4e]⟩⟩
    have : ¬ i = S.n + 13 + 5 := by omega
    simp [Z4e, this]
/-- A list is put behind. -/
theorem VecP.app {n nid by_ es : Nat} {g : Nat → Option Blk} {v : AV} {xs : List AV} (h : VecP g v es xs) (t : Bool) (ys : List AV) (hx : ∀ z ∈ xs, z.cells.length = es) (hy : ∀ z ∈ ys, z.cells.length = es) (hok : appOk by_ xs.length ys.length) :
    ∃ v' S', (exApp es by_ v (.sl t ys)).run ⟨n, g⟩ nid = some (v', S') ∧ S'.n = n ∧ (nid ∉ v.ids → VecP S'.g v' es (xs ++ ys)) ∧ (∀ i, i ∉ v.ids → i ≠ nid → S'.g i = g i) ∧ (∀ i ∈ v'.ids, i ∈ v.ids ∨ i = nid) := by
  have hl : lstE es [] (.sl t ys) = some ys := by simp only [lstE]; rw [if_pos hy]
  rcases h with ⟨rfl, rfl⟩ | ⟨id, off, zs, rfl, h1, h2, h3⟩
  · simp only [List.length_nil] at hok
    by_cases h0 : ys.length = 0
    · have : ys = [] := List.eq_nil_of_length_eq_zero h0
      subst this
      refine ⟨.sl true [], ⟨n, g⟩, ?_, rfl, fun _ => .inl ⟨rfl, rfl⟩, fun _ _ _ => rfl, by simp [AV.ids]⟩
      simp [exApp, AV.oid, Eff.run, hl, St.setL, St.setO, appOk]
    · refine ⟨.own nid 0 ys.length, (⟨n, g⟩ : St).set nid (some (.arr es ys)), ?_, by simp [Z4f], fun _ => .inr ⟨nid, 0, ys, by simp, by simp [Z4e], by simp, by simp⟩, fun i _ hi => by simp [Z4e, hi], by simp [AV.ids]⟩
      simp only [exApp, AV.oid, Eff.run, List.mapM_nil, Option.pure_def, hl, Option.bind_some, List.length_nil, Nat.zero_add, hok, and_true]
      rw [if_pos (by simp), if_neg h0]
      simp [St.setL, St.setO]
  · refine ⟨.own nid 0 (xs.length + ys.length), ((⟨n, g⟩ : St).set id none).set nid (some (.arr es (xs ++ ys))), ?_, by simp [Z4f], fun hn => .inr ⟨nid, 0, xs ++ ys, by simp, by simp [Z4e], by simp, by simp [← List.length_append]⟩, fun i hi hn => ?_, by simp [AV.ids]⟩
    · have ho : (AV.sl t ys).oid = [] := rfl
      have hne : ([] : List Nat) ≠ [id] := by simp
      simp only [exApp, Eff.run, ho, List.mapM_cons, List.mapM_nil, h1, Option.pure_def, Option.bind_eq_bind, Option.bind_some, hl]
      by_cases he : off + xs.length = zs.length
      · rw [if_pos ⟨trivial, he, hok, hne⟩]
        have e : zs.drop off = xs := by rw [← h3, he, List.take_length]
        simp [St.setL, St.setO, e]
      · rw [if_neg (fun hh => he hh.2.1), if_pos ⟨trivial, by omega, hok, hne⟩]
        simp [St.setL, St.setO, h3]
    · simp only [AV.ids, List.mem_cons, List.not_mem_nil, or_false] at hi
      simp [Z4e, hi, hn]
def catA (L : List (Bool × List AV)) : AV := .sl true (L.map fun p => .sl p.1 p.2)
def lenT (L : List (Bool × List AV)) : Nat := (L.map fun p => p.2.length).sum
theorem lenT_le (L : List (Bool × List AV)) (k : Nat) : lenT (L.take k) ≤ lenT L := by
  unfold lenT
  have h : L = L.take k ++ L.drop k := by simp
  conv => rhs; rw [h]
  rw [List.map_append, List.sum_append]; omega
theorem lenT_succ (L : List (Bool × List AV)) (k : Nat) (h : k < L.length) : lenT (L.take (k + 1)) = lenT (L.take k) + (L[k]).2.length := by
  unfold lenT
  rw [List.take_add_one, List.getElem?_eq_getElem h, List.map_append, List.sum_append]; simp
theorem lenT_flat (L : List (Bool × List AV)) : (L.flatMap (·.2)).length = lenT L := by
  unfold lenT; rw [List.length_flatMap]
def CtI (L : List (Bool × List AV)) (n0 : Nat) (g0 : Nat → Option Blk) (k : Nat) (f : AF) (S : St) : Prop := n0 ≤ S.n ∧ S.g = g0 ∧ f 0 = catA L ∧ f 9 = catA L ∧ f 10 = encI L.length ∧ f 11 = encI k ∧ f 3 = encI (lenT (L.take k)) ∧ f 2 = .sl true []
def CtJ (L : List (Bool × List AV)) (es : Nat) (n0 : Nat) (g0 : Nat → Option Blk) (k : Nat) (f : AF) (S : St) : Prop := f 25 = catA L ∧ f 26 = encI L.length ∧ f 27 = encI k ∧ VecP S.g (f 6) es ((L.take k).flatMap (·.2)) ∧ (∀ i ∈ (f 6).ids, n0 ≤ i ∧ i < S.n) ∧ (∀ i, i < n0 → S.g i = g0 i) ∧ n0 ≤ S.n
/-- What slices.Concat does: the lists, one behind the other. -/
def ConcatOut (S : St) (es : Nat) (L : List (Bool × List AV)) (v : AV) (S' : St) : Prop :=
  S.n ≤ S'.n ∧ (∀ i, i < S.n → S'.g i = S.g i) ∧ VecP S'.g v es (L.flatMap (·.2)) ∧ ∀ i ∈ v.ids, S.n ≤ i ∧ i < S'.n
theorem Concat_callR {P : Program} (hm : P.follows .mixedOrders = true) {f fg : FuncId} {es by_ : Nat} {z : AV} (hg : HGrow P fg es z) (hb : by_ ≤ 1000) (h : Is P f (c_Concat es by_ fg) [2] 1)
    {S : St} {L : List (Bool × List AV)} (hc : ∀ p ∈ L, ∀ x ∈ p.2, x.cells.length = es) (hL : L.length ≤ 1000) (ht : lenT L ≤ 1000000) {K : AV → St → Prop} (hk : ∀ v S', ConcatOut S es L v S' → K v S') : CallR P f [catA L] S K := by
  refine h.callR hm rfl ?_
  have hcat : catA L = .sl true (L.map fun p => .sl p.1 p.2) := rfl
  simp [Z0h, Z0c, Z0d, Z09, Z0a, Z0i, Z0b, Z0f, Z0g, Z2z, Z2y, Z07, Z08, Z06, Z01, Z02, Z00, Z04, Z05, Z03, Z1z, Z1y, Z46, Z48, Z47, Z45, Z1n, Z1o, Z1m, Z3n, Z3k, Z3m, Z3l, Z3o, Z1l, Z29, Z32, Z3x, Z1i, Z1j, Z1k, Z3v, Z3w, Z1g, Z28, Z1h, Z3i, Z3f, Z3h, Z3g, Z3j, Z41, Z40, Z0t, Z0u, Z0v, Z0s, Z1f, Z4c, Z4b, Z4d, Z4a, Z49, ex, Z43, Z42, ev_t, ev_c, Z27, Z26, Z4e, Z4f, Z2m, Z2l, Z2f, Z2j, Z2k, Z2g, Z2h, Z2i, putc, exBslice, lfill, exField, exIdxV, exIdxP, exBox, exAlloc, exLoad, exStore, exFieldA, exIdxA, exLen, exPick, exUn, exBeq, exMM, exSeq, seqGo, exExt, binV, intOp, subc, AV.solid, S0, encI, encB, c_Concat, hcat]
  refine AW_for L.length (CtI L S.n S.g) ⟨?_, ?_, ?_, ?_, ?_, ?_, ?_, ?_⟩ ?_
  · simp; omega
  · simp
  · simp [Z43, Z27, hcat]
  · simp [Z43, hcat]
  · simp [Z43, encI]
  · simp [Z43, encI]
  · simp [Z43, encI, lenT]
  · simp [Z43]
  · rintro k f S1 hk1 ⟨hn1, hg1, e0, e9, e10, e11, e3, e2⟩
    rw [hcat] at e0 e9
    by_cases hlt : k < L.length
    · have hgt : L[k]? = some L[k] := List.getElem?_eq_getElem hlt
      have h1 := lenT_succ L k hlt
      have h2 := lenT_le L (k + 1)
      have hw := wrap_in ((lenT (L.take k) : Int) + (L[k]).2.length) (by omega)
      have hneg : ¬ ((lenT (L.take k) : Int) + (L[k]).2.length < 0) := by omega
      simp [Z0h, Z0c, Z0d, Z09, Z0a, Z0i, Z0b, Z0f, Z0g, Z2z, Z2y, Z07, Z08, Z06, Z01, Z02, Z00, Z04, Z05, Z03, Z1z, Z1y, Z46, Z48, Z47, Z45, Z1n, Z1o, Z1m, Z3n, Z3k, Z3m, Z3l, Z3o, Z1l, Z29, Z32, Z3x, Z1i, Z1j, Z1k, Z3v, Z3w, Z1g, Z28, Z1h, Z3i, Z3f, Z3h, Z3g, Z3j, Z41, Z40, Z0t, Z0u, Z0v, Z0s, Z1f, Z4c, Z4b, Z4d, Z4a, Z49, ex, Z43, Z42, ev_t, ev_c, Z27, Z26, Z4e, Z4f, Z2m, Z2l, Z2f, Z2j, Z2k, Z2g, Z2h, Z2i, putc, exBslice, lfill, exField, exIdxV, exIdxP, exBox, exAlloc, exLoad, exStore, exFieldA, exIdxA, exLen, exPick, exUn, exBeq, exMM, exSeq, seqGo, exExt, binV, intOp, subc, AV.solid, S0, encI, encB, e0, e9, e10, e11, e3, e2, hlt, hgt, hw, hneg]
      rw [wrap_in _ (by omega)]
      refine ⟨hlt, ?_, ?_, ?_, ?_, ?_, ?_, ?_, ?_⟩
      · simp; omega
      · simpa using hg1
      · simp [Z43, e0, hcat]
      · simp [Z43, e9, hcat]
      · simp [Z43, e10]
      · simp [Z43, encI]
      · simp [Z43, encI, h1]
      · simp [Z43, e2]
    · have hke : k = L.length := by omega
      subst hke
      rw [List.take_length] at e3
      simp [Z0h, Z0c, Z0d, Z09, Z0a, Z0i, Z0b, Z0f, Z0g, Z2z, Z2y, Z07, Z08, Z06, Z01, Z02, Z00, Z04, Z05, Z03, Z1z, Z1y, Z46, Z48, Z47, Z45, Z1n, Z1o, Z1m, Z3n, Z3k, Z3m, Z3l, Z3o, Z1l, Z29, Z32, Z3x, Z1i, Z1j, Z1k, Z3v, Z3w, Z1g, Z28, Z1h, Z3i, Z3f, Z3h, Z3g, Z3j, Z41, Z40, Z0t, Z0u, Z0v, Z0s, Z1f, Z4c, Z4b, Z4d, Z4a, Z49, ex, Z43, Z42, ev_t, ev_c, Z27, Z26, Z4e, Z4f, Z2m, Z2l, Z2f, Z2j, Z2k, Z2g, Z2h, Z2i, putc, exBslice, lfill, exField, exIdxV, exIdxP, exBox, exAlloc, exLoad, exStore, exFieldA, exIdxA, exLen, exPick, exUn, exBeq, exMM, exSeq, seqGo, exExt, binV, intOp, subc, AV.solid, S0, encI, encB, e0, e9, e10, e11, e3, e2, hlt]
      refine hg _ (lenT L) _ ht (fun v S2 hout => ?_)
      obtain ⟨o1, o2, o3⟩ := hout
      simp only at o1 o2 o3
      have hv0 : VecP S2.g v es ([] : List AV) := by
        rcases o3 with ⟨_, rfl⟩ | ⟨id, _, _, rfl, hgid⟩
        · exact .inl ⟨rfl, rfl⟩
        · exact .inr ⟨id, 0, _, rfl, hgid, by simp, by simp⟩
      have hvi : ∀ i ∈ v.ids, S.n ≤ i ∧ i < S2.n := by
        rcases o3 with ⟨_, rfl⟩ | ⟨id, a1, a2, rfl, _⟩
        · simp [AV.ids]
        · intro i hi; simp [AV.ids] at hi; subst hi; omega
      simp [Z0h, Z0c, Z0d, Z09, Z0a, Z0i, Z0b, Z0f, Z0g, Z2z, Z2y, Z07, Z08, Z06, Z01, Z02, Z00, Z04, Z05, Z03, Z1z, Z1y, Z46, Z48, Z47, Z45, Z1n, Z1o, Z1m, Z3n, Z3k, Z3m, Z3l, Z3o, Z1l, Z29, Z32, Z3x, Z1i, Z1j, Z1k, Z3v, Z3w, Z1g, Z28, Z1h, Z3i, Z3f, Z3h, Z3g, Z3j, Z41, Z40, Z0t, Z0u, Z0v, Z0s, Z1f, Z4c, Z4b, Z4d, Z4a, Z49, ex, Z43, Z42, ev_t, ev_c, Z27, Z26, Z4e, Z4f, Z2m, Z2l, Z2f, Z2j, Z2k, Z2g, Z2h, Z2i, putc, exBslice, lfill, exField, exIdxV, exIdxP, exBox, exAlloc, exLoad, exStore, exFieldA, exIdxA, exLen, exPick, exUn, exBeq, exMM, exSeq, seqGo, exExt, binV, intOp, subc, AV.solid, S0, encI, encB]
      simp only [e0]
      simp [Z0h, Z0c, Z0d, Z09, Z0a, Z0i, Z0b, Z0f, Z0g, Z2z, Z2y, Z07, Z08, Z06, Z01, Z02, Z00, Z04, Z05, Z03, Z1z, Z1y, Z46, Z48, Z47, Z45, Z1n, Z1o, Z1m, Z3n, Z3k, Z3m, Z3l, Z3o, Z1l, Z29, Z32, Z3x, Z1i, Z1j, Z1k, Z3v, Z3w, Z1g, Z28, Z1h, Z3i, Z3f, Z3h, Z3g, Z3j, Z41, Z40, Z0t, Z0u, Z0v, Z0s, Z1f, Z4c, Z4b, Z4d, Z4a, Z49, ex, Z43, Z42, ev_t, ev_c, Z27, Z26, Z4e, Z4f, Z2m, Z2l, Z2f, Z2j, Z2k, Z2g, Z2h, Z2i, putc, exBslice, lfill, exField, exIdxV, exIdxP, exBox, exAlloc, exLoad, exStore, exFieldA, exIdxA, exLen, exPick, exUn, exBeq, exMM, exSeq, seqGo, exExt, binV, intOp, subc, AV.solid, S0, encI, encB]
      refine AW_for L.length (CtJ L es S.n S.g) ⟨?_, ?_, ?_, ?_, ?_, ?_, ?_⟩ ?_
      · simp [Z43, hcat, e0]
      · simp [Z43, encI]
      · simp [Z43, encI]
      · simp [Z43]; exact hv0.frame (fun _ _ => rfl)
      · intro i hi
        simp [Z43] at hi
        have := hvi i hi
        simp; omega
      · intro i hi
        have := o2 i (by omega)
        simp; rw [this, hg1]
      · simp; omega
      · rintro k f S3 hk3 ⟨e25, e26, e27, hv, hvi, hfr, hn3⟩
        rw [hcat] at e25
        by_cases hlt : k < L.length
        · have hgt : L[k]? = some L[k] := List.getElem?_eq_getElem hlt
          have h1 := lenT_succ L k hlt
          have h2 := lenT_le L (k + 1)
          have hlen := lenT_flat (L.take k)
          have hx : ∀ z ∈ (L.take k).flatMap (·.2), z.cells.length = es := by
            intro z hz
            obtain ⟨p, hp, hz⟩ := List.mem_flatMap.mp hz
            exact hc p (List.mem_of_mem_take hp) z hz
          have hok : appOk by_ ((L.take k).flatMap (·.2)).length (L[k]).2.length := by
            unfold appOk
            have : (((L.take k).flatMap (·.2)).length + (L[k]).2.length) * by_ ≤ 1000000 * 1000 := Nat.mul_le_mul (by omega) hb
            omega
          simp [Z0h, Z0c, Z0d, Z09, Z0a, Z0i, Z0b, Z0f, Z0g, Z2z, Z2y, Z07, Z08, Z06, Z01, Z02, Z00, Z04, Z05, Z03, Z1z, Z1y, Z46, Z48, Z47, Z45, Z1n, Z1o, Z1m, Z3n, Z3k, Z3m, Z3l, Z3o, Z1l, Z29, Z32, Z3x, Z1i, Z1j, Z1k, Z3v, Z3w, Z1g, Z28, Z1h, Z3i, Z3f, Z3h, Z3g, Z3j, Z41, Z40, Z0t, Z0u, Z0v, Z0s, Z1f, Z4c, Z4b, Z4d, Z4a, Z49, ex, Z43, Z42, ev_t, ev_c, Z27, Z26, Z4e, Z4f, Z2m, Z2l, Z2f, Z2j, Z2k, Z2g, Z2h, Z2i, putc, exBslice, lfill, exField, exIdxV, exIdxP, exBox, exAlloc, exLoad, exStore, exFieldA, exIdxA, exLen, exPick, exUn, exBeq, exMM, exSeq, seqGo, exExt, binV, intOp, subc, AV.solid, S0, encI, encB, e25, e26, e27, hlt, hgt]
          obtain ⟨v', S', hr, q1, q2, q3, q4⟩ := (hv.frame (g' := S3.g) (fun _ _ => rfl)).app (n := S3.n + 1 + 3 + 4) (nid := S3.n + 1 + 3 + 2) (by_ := by_) (L[k]).1 (L[k]).2 hx (hc _ (List.getElem_mem hlt)) hok
          rw [hr]
          simp [Z0h, Z0c, Z0d, Z09, Z0a, Z0i, Z0b, Z0f, Z0g, Z2z, Z2y, Z07, Z08, Z06, Z01, Z02, Z00, Z04, Z05, Z03, Z1z, Z1y, Z46, Z48, Z47, Z45, Z1n, Z1o, Z1m, Z3n, Z3k, Z3m, Z3l, Z3o, Z1l, Z29, Z32, Z3x, Z1i, Z1j, Z1k, Z3v, Z3w, Z1g, Z28, Z1h, Z3i, Z3f, Z3h, Z3g, Z3j, Z41, Z40, Z0t, Z0u, Z0v, Z0s, Z1f, Z4c, Z4b, Z4d, Z4a, Z49, ex, Z43, Z42, ev_t, ev_c, Z27, Z26, Z4e, Z4f, Z2m, Z2l, Z2f, Z2j, Z2k, Z2g, Z2h, Z2i, putc, exBslice, lfill, exField, exIdxV, exIdxP, exBox, exAlloc, exLoad, exStore, exFieldA, exIdxA, exLen, exPick, exUn, exBeq, exMM, exSeq, seqGo, exExt, binV, intOp, subc, AV.solid, S0, encI, encB, e25, e26, e27]
          rw [wrap_in _ (by omega)]
          have hnid : S3.n + 1 + 3 + 2 ∉ (f 6).ids := fun hh => by have := hvi _ hh; omega
          refine ⟨hlt, ?_, ?_, ?_, ?_, ?_, ?_, ?_⟩
          · simp [Z43, e25, hcat]
          · simp [Z43, e26]
          · simp [Z43, encI]
          · rw [List.take_add_one, hgt, List.flatMap_append]
            simpa [Z43] using (q2 hnid).frame (fun _ _ => rfl)
          · intro i hi
            simp [Z43] at hi
            have hi2 := q4 i hi
            simp [q1]
            rcases hi2 with hi2 | hi2
            · have := hvi i hi2; omega
            · omega
          · intro i hi
            have h3 := q3 i (fun hh => by have := hvi i hh; omega) (by omega)
            simp [h3, hfr i hi]
          · simp [q1]; omega
        · have hke : k = L.length := by omega
          subst hke
          rw [List.take_length] at hv
          simp [Z0h, Z0c, Z0d, Z09, Z0a, Z0i, Z0b, Z0f, Z0g, Z2z, Z2y, Z07, Z08, Z06, Z01, Z02, Z00, Z04, Z05, Z03, Z1z, Z1y, Z46, Z48, Z47, Z45, Z1n, Z1o, Z1m, Z3n, Z3k, Z3m, Z3l, Z3o, Z1l, Z29, Z32, Z3x, Z1i, Z1j, Z1k, Z3v, Z3w, Z1g, Z28, Z1h, Z3i, Z3f, Z3h, Z3g, Z3j, Z41, Z40, Z0t, Z0u, Z0v, Z0s, Z1f, Z4c, Z4b, Z4d, Z4a, Z49, ex, Z43, Z42, ev_t, ev_c, Z27, Z26, Z4e, Z4f, Z2m, Z2l, Z2f, Z2j, Z2k, Z2g, Z2h, Z2i, putc, exBslice, lfill, exField, exIdxV, exIdxP, exBox, exAlloc, exLoad, exStore, exFieldA, exIdxA, exLen, exPick, exUn, exBeq, exMM, exSeq, seqGo, exExt, binV, intOp, subc, AV.solid, S0, encI, encB, e25, e26, e27, hlt]
          refine hk _ _ ⟨?_, ?_, ?_, ?_⟩
          · simp; omega
          · intro i hi; simp [hfr i hi]
          · exact hv.frame (fun _ _ => rfl)
          · intro i hi
            have := hvi i hi
            simp; omega
end Go.Rf

