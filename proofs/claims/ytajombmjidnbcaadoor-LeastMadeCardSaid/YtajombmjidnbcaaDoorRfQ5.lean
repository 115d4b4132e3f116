import Derived.Test.YtajombmjidnbcaaDoorRfP5
import Derived.Test.YtajombmjidnbcaaDoorRfQ1
import Derived.Test.YtajombmjidnbcaaDoorRfQ3
/- Own work: which states are come to; whether nothing is accepted (the document's). -/
set_option linter.unusedVariables false
set_option linter.unusedSimpArgs false
namespace Go.Rf
open Go.RowKit
def Rch (d : Det) (x : Nat) : Prop := ∃ l, Vl d l ∧ runT d 0 l = x
noncomputable def reachB (d : Det) : List Bool := (List.range d.next.length).map fun x => @decide (Rch d x) (Classical.propDecidable _)
theorem reachB_len (d : Det) : (reachB d).length = d.next.length := by simp [reachB]
theorem reachB_get (d : Det) {x : Nat} (h : x < d.next.length) : (reachB d).getD x false = true ↔ Rch d x := by
  simp [reachB, List.getD_eq_getElem?_getD, h]
theorem runT_snoc (d : Det) (i : Nat) (l : List Int) (s : Int) : runT d i (l ++ [s]) = stepD d (runT d i l) s := by simp [runT]
theorem Rch.step {d : Det} {x : Nat} (h : Rch d x) {s : Int} (h0 : 0 ≤ s) (hs : s < d.signs) : Rch d (stepD d x s) := by
  obtain ⟨l, h1, rfl⟩ := h
  refine ⟨l ++ [s], fun y hy => ?_, runT_snoc _ _ _ _⟩
  rcases List.mem_append.mp hy with hy | hy
  · exact h1 y hy
  · rw [List.mem_singleton] at hy; subst hy; exact ⟨h0, hs⟩
structure RqOk (d : Det) (L : List Nat) (met : List Bool) : Prop where
  len : met.length = d.next.length
  mem : ∀ x, x < d.next.length → (met.getD x false = true ↔ x ∈ L)
  nd : L.Nodup
  lt : ∀ x ∈ L, x < d.next.length
  rch : ∀ x ∈ L, Rch d x
  zero : 0 ∈ L
theorem RqOk.le {d : Det} {L : List Nat} {met : List Bool} (h : RqOk d L met) : L.length ≤ d.next.length := nodup_le _ _ h.nd h.lt
theorem RqOk.add {d : Det} {L : List Nat} {met : List Bool} (h : RqOk d L met) {t : Nat} (ht : t < d.next.length) (hm : met.getD t false = false) (hr : Rch d t) : RqOk d (L ++ [t]) (met.set t true) := by
  have hn : t ∉ L := fun hx => by rw [(h.mem t ht).mpr hx] at hm; cases hm
  refine ⟨by simpa using h.len, fun x hx => ?_, ?_, fun x hx => ?_, fun x hx => ?_, List.mem_append_left _ h.zero⟩
  · rw [List.getD_eq_getElem?_getD, List.getElem?_set]
    by_cases e : t = x
    · subst e
      rw [if_pos rfl, if_pos (by rw [h.len]; exact ht)]
      simp
    · rw [if_neg e, ← List.getD_eq_getElem?_getD, h.mem x hx]
      simp only [List.mem_append, List.mem_singleton]
      exact ⟨.inl, fun h => h.elim id fun e2 => (e e2.symm).elim⟩
  · rw [List.nodup_append]
    exact ⟨h.nd, by simp, fun a ha b hb => by simp at hb; subst hb; rintro rfl; exact hn ha⟩
  · rcases List.mem_append.mp hx with hx | hx
    · exact h.lt x hx
    · rw [List.mem_singleton] at hx; subst hx; exact ht
  · rcases List.mem_append.mp hx with hx | hx
    · exact h.rch x hx
    · rw [List.mem_singleton] at hx; subst hx; exact hr
theorem RqOk.done {d : Det} (R : RightD d) {L : List Nat} {met : List Bool} (h : RqOk d L met) (hc : ∀ q ∈ L, ∀ s : Nat, (s : Int) < d.signs → stepD d q s ∈ L) : met = reachB d := by
  have key : ∀ l : List Int, Vl d l → ∀ q ∈ L, runT d q l ∈ L := by
    intro l
    induction l with
    | nil => intro _ q hq; exact hq
    | cons s l ih =>
      intro hv q hq
      have hs := hv s (by simp)
      have := hc q hq s.toNat (by omega)
      have e : ((s.toNat : Nat) : Int) = s := by omega
      rw [e] at this
      exact ih (fun x hx => hv x (by simp [hx])) _ this
  apply List.ext_getElem
  · rw [h.len, reachB_len]
  · intro x h1 h2
    have hx : x < d.next.length := by rw [← h.len]; exact h1
    have e1 : met[x] = met.getD x false := by rw [List.getD_eq_getElem?_getD, List.getElem?_eq_getElem h1]; rfl
    have e2 : (reachB d)[x] = (reachB d).getD x false := by rw [List.getD_eq_getElem?_getD, List.getElem?_eq_getElem h2]; rfl
    rw [e1, e2]
    have i1 := h.mem x hx
    have i2 := reachB_get d hx
    have : met.getD x false = true ↔ (reachB d).getD x false = true := by
      rw [i1, i2]
      constructor
      · exact h.rch x
      · rintro ⟨l, hl, rfl⟩
        exact key l hl 0 h.zero
    cases hA : met.getD x false <;> cases hB : (reachB d).getD x false <;> simp_all
end Go.Rf


/- Own work: growing lists of pairs of integers. -/
set_option linter.unusedVariables false
set_option linter.unusedSimpArgs false
namespace Go.Rf
open Go.RowKit
def encPr (p : Int × Int) : AV := .agg [.v (.int .i64 p.1), .v (.int .i64 p.2)]
theorem solid_Pr (p : Int × Int) : (encPr p).solid = true := rfl
theorem cells_Pr (p : Int × Int) : (encPr p).cells = [.v (.int .i64 p.1), .v (.int .i64 p.2)] := rfl
theorem closed_Pr (p : Int × Int) : Closed (encPr p) := .agg _ (cl_cons (.v _) (cl_cons (.v _) cl_nil))
theorem Cel_Pr (l : List (Int × Int)) : Cel 2 (l.map encPr) := Cel_map (enc := encPr) (fun _ => rfl) l
theorem Cls_Pr (l : List (Int × Int)) : Cls (l.map encPr) := Cls_map closed_Pr l
/-- A place inside of an element. -/
def vQ (o : Bool) (id i c : Nat) (xs : List AV) : AV := if o = true then .ptr id i c else .eptr (xs[i]?.getD .junk) c
theorem vIdxP {o : Bool} {id i : Nat} {xs : List AV} {k : IntKind} {n : Int} (h0 : 0 ≤ n) (h1 : n < 2) : exIdxP 2 1 (vP o id i xs) (.v (.int k n)) = some (vQ o id i n.toNat xs) := by
  cases o <;> simp [exIdxP, vP, vQ, h0, h1]
section
variable {S : St} {o : Bool} {id i nid : Nat} {l : List (Int × Int)}
theorem vQ0 (hg : S.g id = vB o 2 (l.map encPr)) (hx : i < l.length) : (exLoad none (vQ o id i 0 (l.map encPr))).run S nid = some (.v (.int .i64 l[i].1), S) := by
  cases o with
  | true => rw [vB_t] at hg; simp [vQ, exLoad, hg, hx, subc, cells_Pr]
  | false => simp [vQ, exLoad, subc, hx, cells_Pr]
theorem vQ1 (hg : S.g id = vB o 2 (l.map encPr)) (hx : i < l.length) : (exLoad none (vQ o id i 1 (l.map encPr))).run S nid = some (.v (.int .i64 l[i].2), S) := by
  cases o with
  | true => rw [vB_t] at hg; simp [vQ, exLoad, hg, hx, subc, cells_Pr]
  | false => simp [vQ, exLoad, subc, hx, cells_Pr]
theorem vLd2 (hg : S.g id = vB o 2 (l.map encPr)) (hx : i < l.length) : (exLoad (some 2) (vP o id i (l.map encPr))).run S nid = some (encPr l[i], S) := by
  cases o with
  | true => rw [vB_t] at hg; simp [vP, exLoad, hg, hx, subc, cells_Pr, encPr, AV.cells]
  | false => simp [vP, exLoad, subc, hx, cells_Pr, encPr, AV.cells]
theorem vQ0T (hg : S.g id = vB o 2 (l.map encPr)) (hx : i < l.length) : (exLoad none (vQ o id i 0 (l.map encPr))).runT S nid = some (.v (.int .i64 l[i].1), S, vF o [id], []) := by
  cases o with
  | true => rw [vB_t] at hg; simp [vQ, exLoad, hg, hx, subc, cells_Pr, Z4b, vF]
  | false => simp [vQ, exLoad, subc, hx, cells_Pr, Z4c, vF]
theorem vQ1T (hg : S.g id = vB o 2 (l.map encPr)) (hx : i < l.length) : (exLoad none (vQ o id i 1 (l.map encPr))).runT S nid = some (.v (.int .i64 l[i].2), S, vF o [id], []) := by
  cases o with
  | true => rw [vB_t] at hg; simp [vQ, exLoad, hg, hx, subc, cells_Pr, Z4b, vF]
  | false => simp [vQ, exLoad, subc, hx, cells_Pr, Z4c, vF]
theorem vLd2T (hg : S.g id = vB o 2 (l.map encPr)) (hx : i < l.length) : (exLoad (some 2) (vP o id i (l.map encPr))).runT S nid = some (encPr l[i], S, vF o [id], []) := by
  cases o with
  | true => rw [vB_t] at hg; simp [vP, exLoad, hg, hx, subc, cells_Pr, encPr, AV.cells, Z4b, vF]
  | false => simp [vP, exLoad, subc, hx, cells_Pr, encPr, AV.cells, Z4c, vF]
end
theorem seqNe (p q : Int × Int) : exSeq true [0, 1] (encPr p) (encPr q) = some (.v (.bool (decide (p ≠ q)))) := by
  obtain ⟨a, b⟩ := p
  obtain ⟨c, d⟩ := q
  by_cases h1 : a = c
  · subst h1
    by_cases h2 : b = d
    · subst h2; simp [exSeq, encPr, seqGo]
    · simp [exSeq, encPr, seqGo, h2]
  · simp [exSeq, encPr, seqGo, h1]
theorem seqNe2 (p : Int × Int) (x y : Int) : exSeq true [0, 1] (encPr p) (.agg [.v (.int .i64 x), .v (.int .i64 y)]) = some (.v (.bool (decide (p ≠ (x, y))))) := seqNe p (x, y)
end Go.Rf


/- Own work: the least one is one alone (plain law). -/
set_option linter.unusedVariables false
namespace Go.Rf
open Go.RowKit
/-- From these states on the two accept the same. -/
def XEq (a b : Det) (i k : Nat) : Prop := ∀ l, Vl a l → finB a (runT a i l) = finB b (runT b k l)
theorem XEq.step {a b : Det} {i k : Nat} (h : XEq a b i k) {s : Int} (h0 : 0 ≤ s) (hs : s < a.signs) : XEq a b (stepD a i s) (stepD b k s) := fun l hl => by
  have := h (s :: l) (fun x hx => by
    rcases List.mem_cons.mp hx with rfl | hx
    · exact ⟨h0, hs⟩
    · exact hl x hx)
  exact this
theorem XEq.eqv {a b : Det} {i k i' k' : Nat} (hs : a.signs = b.signs) (h : XEq a b i k) (h' : XEq a b i' k') : Eqv a i i' ↔ Eqv b k k' := by
  constructor
  · intro he l hl
    have hl' : Vl a l := fun x hx => by rw [hs]; exact hl x hx
    rw [← h l hl', ← h' l hl']; exact he l hl'
  · intro he l hl
    have hl' : Vl b l := fun x hx => by rw [← hs]; exact hl x hx
    rw [h l hl, h' l hl]; exact he l hl'
theorem idxOf_par : ∀ {xs ys : List Int} {x y : Int}, xs.length = ys.length → (∀ j (h1 : j < xs.length) (h2 : j < ys.length), xs[j] = x ↔ ys[j] = y) → (x ∈ xs ↔ y ∈ ys) ∧ xs.idxOf x = ys.idxOf y
  | [], [], _, _, _, _ => by simp
  | [], _ :: _, _, _, h, _ => by simp at h
  | _ :: _, [], _, _, h, _ => by simp at h
  | p :: xs, q :: ys, x, y, hl, h => by
    obtain ⟨i1, i2⟩ := idxOf_par (xs := xs) (ys := ys) (x := x) (y := y) (by simpa using hl) (fun j h1 h2 => by
      have := h (j + 1) (by simpa using h1) (by simpa using h2)
      simpa using this)
    have h0 := h 0 (by simp) (by simp)
    simp only [List.getElem_cons_zero] at h0
    constructor
    · simp only [List.mem_cons, i1]
      exact ⟨fun e => e.elim (fun e => .inl (h0.mp e.symm).symm) .inr, fun e => e.elim (fun e => .inl (h0.mpr e.symm).symm) .inr⟩
    · rw [List.idxOf_cons, List.idxOf_cons, i2]
      by_cases e : p = x
      · have e2 := h0.mp e
        rw [beq_iff_eq.mpr e, beq_iff_eq.mpr e2]
      · have e2 : ¬ q = y := fun e2 => e (h0.mpr e2)
        rw [beq_eq_false_iff_ne.mpr e, beq_eq_false_iff_ne.mpr e2]
structure Par (a b : Det) (L M : List Nat) : Prop where
  len : L.length = M.length
  at_ : ∀ j (h1 : j < L.length) (h2 : j < M.length), L[j] < a.next.length ∧ M[j] < b.next.length ∧ XEq a b L[j] M[j]
theorem par_num {a b : Det} (hs : a.signs = b.signs) {ca cb : List Int} (Ca : ClsD a ca) (Cb : ClsD b cb) {L M : List Nat} (h : Par a b L M) {t u : Nat} (ht : t < a.next.length) (hu : u < b.next.length) (he : XEq a b t u) :
    (lnum ca L t).2 = (lnum cb M u).2 ∧ Par a b (lnum ca L t).1 (lnum cb M u).1 := by
  obtain ⟨i1, i2⟩ := idxOf_par (xs := L.map (clsN ca)) (ys := M.map (clsN cb)) (x := clsN ca t) (y := clsN cb u) (by simpa using h.len) (fun j h1 h2 => by
    simp only [List.length_map] at h1 h2
    simp only [List.getElem_map]
    obtain ⟨k1, k2, k3⟩ := h.at_ j h1 h2
    exact ((Ca.eq _ _ k1 ht).trans (k3.eqv hs he)).trans (Cb.eq _ _ k2 hu).symm)
  unfold lnum
  by_cases hm : clsN ca t ∈ L.map (clsN ca)
  · rw [if_pos hm, if_pos (i1.mp hm)]
    exact ⟨i2, h⟩
  · rw [if_neg hm, if_neg (fun e => hm (i1.mpr e))]
    refine ⟨h.len, by simp [h.len], fun j h1 h2 => ?_⟩
    by_cases hj : j < L.length
    · have hj2 : j < M.length := by rw [← h.len]; exact hj
      rw [List.getElem_append_left hj, List.getElem_append_left hj2]
      exact h.at_ j hj hj2
    · simp only [List.length_append, List.length_singleton] at h1 h2
      have hjL : j = L.length := by omega
      subst hjL
      have hl := h.len
      rw [List.getElem_append_right (by omega), List.getElem_append_right (by omega)]
      simp only [List.getElem_singleton]
      exact ⟨ht, hu, he⟩
theorem par_row {a b : Det} (hs : a.signs = b.signs) {ca cb : List Int} (Ca : ClsD a ca) (Cb : ClsD b cb) {L M : List Nat} (h : Par a b L M) {t u : Nat → Nat} : ∀ k : Nat, (∀ s, s < k → t s < a.next.length ∧ u s < b.next.length ∧ XEq a b (t s) (u s)) →
    (lrow ca t k L).2 = (lrow cb u k M).2 ∧ Par a b (lrow ca t k L).1 (lrow cb u k M).1
  | 0, _ => ⟨rfl, h⟩
  | k + 1, hk => by
    obtain ⟨i1, i2⟩ := par_row hs Ca Cb h (t := t) (u := u) k (fun s hs => hk s (by omega))
    obtain ⟨h1, h2, h3⟩ := hk k (by omega)
    obtain ⟨j1, j2⟩ := par_num hs Ca Cb i2 h1 h2 h3
    simp only [lrow]
    exact ⟨by rw [i1, j1], j2⟩
theorem par_ls {a b : Det} (Ra : RightD a) (Rb : RightD b) (hs : a.signs = b.signs) {ca cb : List Int} (Ca : ClsD a ca) (Cb : ClsD b cb) (h0 : XEq a b 0 0) : ∀ i, (lsF a ca i).2 = (lsF b cb i).2 ∧ Par a b (lsF a ca i).1 (lsF b cb i).1
  | 0 => by
    refine ⟨rfl, rfl, fun j h1 h2 => ?_⟩
    have hj : j = 0 := by simp [lsF] at h1; omega
    subst hj
    exact ⟨by have := Ra.n1; simp [lsF]; omega, by have := Rb.n1; simp [lsF]; omega, h0⟩
  | i + 1 => by
    obtain ⟨i1, i2⟩ := par_ls Ra Rb hs Ca Cb h0 i
    have hl := i2.len
    simp only [lsF, lnx]
    by_cases hi : i < (lsF a ca i).1.length
    · have hi2 : i < (lsF b cb i).1.length := by omega
      rw [List.getElem?_eq_getElem hi, List.getElem?_eq_getElem hi2]
      simp only
      obtain ⟨k1, k2, k3⟩ := i2.at_ i hi hi2
      obtain ⟨r1, r2⟩ := par_row hs Ca Cb i2 (t := fun s => stepD a ((lsF a ca i).1[i]) s) (u := fun s => stepD b ((lsF b cb i).1[i]) s) a.signs.toNat (fun s hs2 =>
        ⟨step_lt Ra k1 (by omega) (by omega), step_lt Rb k2 (by omega) (by omega), k3.step (by omega) (by omega)⟩)
      have hf : finB a ((lsF a ca i).1[i]) = finB b ((lsF b cb i).1[i]) := k3 [] (fun s hs => by simp at hs)
      have e1 : (lsF a ca i).2.1 = (lsF b cb i).2.1 := by rw [i1]
      have e2 : (lsF a ca i).2.2 = (lsF b cb i).2.2 := by rw [i1]
      rw [← hs]
      exact ⟨by rw [r1, hf, e1, e2], r2⟩
    · rw [List.getElem?_eq_none (by omega), List.getElem?_eq_none (by omega)]
      exact ⟨i1, i2⟩
theorem lalone {a b : Det} (Ra : RightD a) (Rb : RightD b) (hs : a.signs = b.signs) (h0 : XEq a b 0 0) : leastD a = leastD b := by
  have P := par_ls Ra Rb hs (classesD_ok Ra) (classesD_ok Rb) h0
  obtain ⟨k, e1, e2, e3, _⟩ := leastS_spec Ra
  obtain ⟨m, f1, f2, f3, _⟩ := leastS_spec Rb
  have hkm : k = m := by
    rcases Nat.lt_trichotomy k m with h | h | h
    · have := f3 k h
      have hl := (P k).2.len
      rw [← e1] at hl; omega
    · exact h
    · have := e3 m h
      have hl := (P m).2.len
      rw [← f1] at hl; omega
  subst hkm
  have : (leastS a).2 = (leastS b).2 := by rw [e1, f1]; exact (P k).1
  unfold leastD
  rw [hs, this]
theorem least_xeq {d : Det} (R : RightD d) : XEq (leastD d) d 0 0 := by
  obtain ⟨k, h1, h2, h3, o⟩ := leastS_spec R
  intro l hl
  obtain ⟨q', _, _, h⟩ := (leastD_ok R).2.2 l 0 0 o.zero hl
  exact h
theorem least_idem {d : Det} (R : RightD d) : leastD (leastD d) = leastD d := lalone (leastD_ok R).1 R rfl (least_xeq R)
theorem least_le {d : Det} (R : RightD d) : (leastD d).next.length ≤ d.next.length := by
  obtain ⟨k, h1, h2, h3, o⟩ := leastS_spec R
  rw [(leastD_ok R).2.1]; exact o.len
end Go.Rf

