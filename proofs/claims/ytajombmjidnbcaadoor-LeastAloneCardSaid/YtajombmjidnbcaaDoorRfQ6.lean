import Derived.Test.YtajombmjidnbcaaDoorRfQ1
import Derived.Test.YtajombmjidnbcaaDoorRfQ3
/- Own work: growing lists of pairs of integers. -/
set_option linter.unusedVariables false
set_option linter.unusedSimpArgs false
namespace Go.Rf
open Go.RowKit
def encPr (p : Int × Int) : AV := .agg [.v (.int .i64 p.1), .v (.int .i64 p.2)]
theorem solid_Pr (p : Int × Int) : (encPr p).solid = true := rfl
theorem cells_Pr (p : Int × Int) : (encPr p).cells = [.v (.int .i64 p.1), .v (.int .i64 p.2)] := rfl
theorem closed_Pr (p : Int × Int) : Closed (encPr p) := .agg _ (cl_cons (.v _) (cl_cons (.v _) cl_nil))
theorem Cel_Pr (l : List (Int × Int)) : Cel 2 (l.map encPr) := Cel_map (enc := encPr) (fun _ => rfl) l
theorem Cls_Pr (l : List (Int × Int)) : Cls (l.map encPr) := Cls_map closed_Pr l
/-- A place inside of an element. -/
def vQ (o : Bool) (id i c : Nat) (xs : List AV) : AV := if o = true then .ptr id i c else .eptr (xs[i]?.getD .junk) c
theorem vIdxP {o : Bool} {id i : Nat} {xs : List AV} {k : IntKind} {n : Int} (h0 : 0 ≤ n) (h1 : n < 2) : exIdxP 2 1 (vP o id i xs) (.v (.int k n)) = some (vQ o id i n.toNat xs) := by
  cases o <;> simp [exIdxP, vP, vQ, h0, h1]
section
variable {S : St} {o : Bool} {id i nid : Nat} {l : List (Int × Int)}
theorem vQ0 (hg : S.g id = vB o 2 (l.map encPr)) (hx : i < l.length) : (exLoad none (vQ o id i 0 (l.map encPr))).run S nid = some (.v (.int .i64 l[i].1), S) := by
  cases o with
  | true => rw [vB_t] at hg; simp [vQ, exLoad, hg, hx, subc, cells_Pr]
  | false => simp [vQ, exLoad, subc, hx, cells_Pr]
theorem vQ1 (hg : S.g id = vB o 2 (l.map encPr)) (hx : i < l.length) : (exLoad none (vQ o id i 1 (l.map encPr))).run S nid = some (.v (.int .i64 l[i].2), S) := by
  cases o with
  | true => rw [vB_t] at hg; simp [vQ, exLoad, hg, hx, subc, cells_Pr]
  | false => simp [vQ, exLoad, subc, hx, cells_Pr]
theorem vLd2 (hg : S.g id = vB o 2 (l.map encPr)) (hx : i < l.length) : (exLoad (some 2) (vP o id i (l.map encPr))).run S nid = some (encPr l[i], S) := by
  cases o with
  | true => rw [vB_t] at hg; simp [vP, exLoad, hg, hx, subc, cells_Pr, encPr, AV.cells]
  | false => simp [vP, exLoad, subc, hx, cells_Pr, encPr, AV.cells]
theorem vQ0T (hg : S.g id = vB o 2 (l.map encPr)) (hx : i < l.length) : (exLoad none (vQ o id i 0 (l.map encPr))).runT S nid = some (.v (.int .i64 l[i].1), S, vF o [id], []) := by
  cases o with
  | true => rw [vB_t] at hg; simp [vQ, exLoad, hg, hx, subc, cells_Pr, Z4b, vF]
  | false => simp [vQ, exLoad, subc, hx, cells_Pr, Z4c, vF]
theorem vQ1T (hg : S.g id = vB o 2 (l.map encPr)) (hx : i < l.length) : (exLoad none (vQ o id i 1 (l.map encPr))).runT S nid = some (.v (.int .i64 l[i].2), S, vF o [id], []) := by
  cases o with
  | true => rw [vB_t] at hg; simp [vQ, exLoad, hg, hx, subc, cells_Pr, Z4b, vF]
  | false => simp [vQ, exLoad, subc, hx, cells_Pr, Z4c, vF]
theorem vLd2T (hg : S.g id = vB o 2 (l.map encPr)) (hx : i < l.length) : (exLoad (some 2) (vP o id i (l.map encPr))).runT S nid = some (encPr l[i], S, vF o [id], []) := by
  cases o with
  | true => rw [vB_t] at hg; simp [vP, exLoad, hg, hx, subc, cells_Pr, encPr, AV.cells, Z4b, vF]
  | false => simp [vP, exLoad, subc, hx, cells_Pr, encPr, AV.cells, Z4c, vF]
end
theorem seqNe (p q : Int × Int) : exSeq true [0, 1] (encPr p) (encPr q) = some (.v (.bool (decide (p ≠ q)))) := by
  obtain ⟨a, b⟩ := p
  obtain ⟨c, d⟩ := q
  by_cases h1 : a = c
  · subst h1
    by_cases h2 : b = d
    · subst h2; simp [exSeq, encPr, seqGo]
    · simp [exSeq, encPr, seqGo, h2]
  · simp [exSeq, encPr, seqGo, h1]
theorem seqNe2 (p : Int × Int) (x y : Int) : exSeq true [0, 1] (encPr p) (.agg [.v (.int .i64 x), .v (.int .i64 y)]) = some (.v (.bool (decide (p ≠ (x, y))))) := seqNe p (x, y)
end Go.Rf


/- Own work: the least one is one alone (plain law). -/
set_option linter.unusedVariables false
namespace Go.Rf
open Go.RowKit
/-- From these states on the two accept the same. -/
def XEq (a b : Det) (i k : Nat) : Prop := ∀ l, Vl a l → finB a (runT a i l) = finB b (runT b k l)
theorem XEq.step {a b : Det} {i k : Nat} (h : XEq a b i k) {s : Int} (h0 : 0 ≤ s) (hs : s < a.signs) : XEq a b (stepD a i s) (stepD b k s) := fun l hl => by
  have := h (s :: l) (fun x hx => by
    rcases List.mem_cons.mp hx with rfl | hx
    · exact ⟨h0, hs⟩
    · exact hl x hx)
  exact this
theorem XEq.eqv {a b : Det} {i k i' k' : Nat} (hs : a.signs = b.signs) (h : XEq a b i k) (h' : XEq a b i' k') : Eqv a i i' ↔ Eqv b k k' := by
  constructor
  · intro he l hl
    have hl' : Vl a l := fun x hx => by rw [hs]; exact hl x hx
    rw [← h l hl', ← h' l hl']; exact he l hl'
  · intro he l hl
    have hl' : Vl b l := fun x hx => by rw [← hs]; exact hl x hx
    rw [h l hl, h' l hl]; exact he l hl'
theorem idxOf_par : ∀ {xs ys : List Int} {x y : Int}, xs.length = ys.length → (∀ j (h1 : j < xs.length) (h2 : j < ys.length), xs[j] = x ↔ ys[j] = y) → (x ∈ xs ↔ y ∈ ys) ∧ xs.idxOf x = ys.idxOf y
  | [], [], _, _, _, _ => by simp
  | [], _ :: _, _, _, h, _ => by simp at h
  | _ :: _, [], _, _, h, _ => by simp at h
  | p :: xs, q :: ys, x, y, hl, h => by
    obtain ⟨i1, i2⟩ := idxOf_par (xs := xs) (ys := ys) (x := x) (y := y) (by simpa using hl) (fun j h1 h2 => by
      have := h (j + 1) (by simpa using h1) (by simpa using h2)
      simpa using this)
    have h0 := h 0 (by simp) (by simp)
    simp only [List.getElem_cons_zero] at h0
    constructor
    · simp only [List.mem_cons, i1]
      exact ⟨fun e => e.elim (fun e => .inl (h0.mp e.symm).symm) .inr, fun e => e.elim (fun e => .inl (h0.mpr e.symm).symm) .inr⟩
    · rw [List.idxOf_cons, List.idxOf_cons, i2]
      by_cases e : p = x
      · have e2 := h0.mp e
        rw [beq_iff_eq.mpr e, beq_iff_eq.mpr e2]
      · have e2 : ¬ q = y := fun e2 => e (h0.mpr e2)
        rw [beq_eq_false_iff_ne.mpr e, beq_eq_false_iff_ne.mpr e2]
structure Par (a b : Det) (L M : List Nat) : Prop where
  len : L.length = M.length
  at_ : ∀ j (h1 : j < L.length) (h2 : j < M.length), L[j] < a.next.length ∧ M[j] < b.next.length ∧ XEq a b L[j] M[j]
theorem par_num {a b : Det} (hs : a.signs = b.signs) {ca cb : List Int} (Ca : ClsD a ca) (Cb : ClsD b cb) {L M : List Nat} (h : Par a b L M) {t u : Nat} (ht : t < a.next.length) (hu : u < b.next.length) (he : XEq a b t u) :
    (lnum ca L t).2 = (lnum cb M u).2 ∧ Par a b (lnum ca L t).1 (lnum cb M u).1 := by
  obtain ⟨i1, i2⟩ := idxOf_par (xs := L.map (clsN ca)) (ys := M.map (clsN cb)) (x := clsN ca t) (y := clsN cb u) (by simpa using h.len) (fun j h1 h2 => by
    simp only [List.length_map] at h1 h2
    simp only [List.getElem_map]
    obtain ⟨k1, k2, k3⟩ := h.at_ j h1 h2
    exact ((Ca.eq _ _ k1 ht).trans (k3.eqv hs he)).trans (Cb.eq _ _ k2 hu).symm)
  unfold lnum
  by_cases hm : clsN ca t ∈ L.map (clsN ca)
  · rw [if_pos hm, if_pos (i1.mp hm)]
    exact ⟨i2, h⟩
  · rw [if_neg hm, if_neg (fun e => hm (i1.mpr e))]
    refine ⟨h.len, by simp [h.len], fun j h1 h2 => ?_⟩
    by_cases hj : j < L.length
    · have hj2 : j < M.length := by rw [← h.len]; exact hj
      rw [List.getElem_append_left hj, List.getElem_append_left hj2]
      exact h.at_ j hj hj2
    · simp only [List.length_append, List.length_singleton] at h1 h2
      have hjL : j = L.length := by omega
      subst hjL
      have hl := h.len
      rw [List.getElem_append_right (by omega), List.getElem_append_right (by omega)]
      simp only [List.getElem_singleton]
      exact ⟨ht, hu, he⟩
theorem par_row {a b : Det} (hs : a.signs = b.signs) {ca cb : List Int} (Ca : ClsD a ca) (Cb : ClsD b cb) {L M : List Nat} (h : Par a b L M) {t u : Nat → Nat} : ∀ k : Nat, (∀ s, s < k → t s < a.next.length ∧ u s < b.next.length ∧ XEq a b (t s) (u s)) →
    (lrow ca t k L).2 = (lrow cb u k M).2 ∧ Par a b (lrow ca t k L).1 (lrow cb u k M).1
  | 0, _ => ⟨rfl, h⟩
  | k + 1, hk => by
    obtain ⟨i1, i2⟩ := par_row hs Ca Cb h (t := t) (u := u) k (fun s hs => hk s (by omega))
    obtain ⟨h1, h2, h3⟩ := hk k (by omega)
    obtain ⟨j1, j2⟩ := par_num hs Ca Cb i2 h1 h2 h3
    simp only [lrow]
    exact ⟨by rw [i1, j1], j2⟩
theorem par_ls {a b : Det} (Ra : RightD a) (Rb : RightD b) (hs : a.signs = b.signs) {ca cb : List Int} (Ca : ClsD a ca) (Cb : ClsD b cb) (h0 : XEq a b 0 0) : ∀ i, (lsF a ca i).2 = (lsF b cb i).2 ∧ Par a b (lsF a ca i).1 (lsF b cb i).1
  | 0 => by
    refine ⟨rfl, rfl, fun j h1 h2 => ?_⟩
    have hj : j = 0 := by simp [lsF] at h1; omega
    subst hj
    exact ⟨by have := Ra.n1; simp [lsF]; omega, by have := Rb.n1; simp [lsF]; omega, h0⟩
  | i + 1 => by
    obtain ⟨i1, i2⟩ := par_ls Ra Rb hs Ca Cb h0 i
    have hl := i2.len
    simp only [lsF, lnx]
    by_cases hi : i < (lsF a ca i).1.length
    · have hi2 : i < (lsF b cb i).1.length := by omega
      rw [List.getElem?_eq_getElem hi, List.getElem?_eq_getElem hi2]
      simp only
      obtain ⟨k1, k2, k3⟩ := i2.at_ i hi hi2
      obtain ⟨r1, r2⟩ := par_row hs Ca Cb i2 (t := fun s => stepD a ((lsF a ca i).1[i]) s) (u := fun s => stepD b ((lsF b cb i).1[i]) s) a.signs.toNat (fun s hs2 =>
        ⟨step_lt Ra k1 (by omega) (by omega), step_lt Rb k2 (by omega) (by omega), k3.step (by omega) (by omega)⟩)
      have hf : finB a ((lsF a ca i).1[i]) = finB b ((lsF b cb i).1[i]) := k3 [] (fun s hs => by simp at hs)
      have e1 : (lsF a ca i).2.1 = (lsF b cb i).2.1 := by rw [i1]
      have e2 : (lsF a ca i).2.2 = (lsF b cb i).2.2 := by rw [i1]
      rw [← hs]
      exact ⟨by rw [r1, hf, e1, e2], r2⟩
    · rw [List.getElem?_eq_none (by omega), List.getElem?_eq_none (by omega)]
      exact ⟨i1, i2⟩
theorem lalone {a b : Det} (Ra : RightD a) (Rb : RightD b) (hs : a.signs = b.signs) (h0 : XEq a b 0 0) : leastD a = leastD b := by
  have P := par_ls Ra Rb hs (classesD_ok Ra) (classesD_ok Rb) h0
  obtain ⟨k, e1, e2, e3, _⟩ := leastS_spec Ra
  obtain ⟨m, f1, f2, f3, _⟩ := leastS_spec Rb
  have hkm : k = m := by
    rcases Nat.lt_trichotomy k m with h | h | h
    · have := f3 k h
      have hl := (P k).2.len
      rw [← e1] at hl; omega
    · exact h
    · have := e3 m h
      have hl := (P m).2.len
      rw [← f1] at hl; omega
  subst hkm
  have : (leastS a).2 = (leastS b).2 := by rw [e1, f1]; exact (P k).1
  unfold leastD
  rw [hs, this]
theorem least_xeq {d : Det} (R : RightD d) : XEq (leastD d) d 0 0 := by
  obtain ⟨k, h1, h2, h3, o⟩ := leastS_spec R
  intro l hl
  obtain ⟨q', _, _, h⟩ := (leastD_ok R).2.2 l 0 0 o.zero hl
  exact h
theorem lalone_iff {a b : Det} (Ra : RightD a) (Rb : RightD b) (hs : a.signs = b.signs) : leastD a = leastD b ↔ XEq a b 0 0 := by
  refine ⟨fun h l hl => ?_, lalone Ra Rb hs⟩
  have h1 := least_xeq Ra l hl
  have h2 := least_xeq Rb l (fun x hx => by rw [show (leastD b).signs = b.signs from rfl, ← hs]; exact hl x hx)
  rw [h] at h1
  rw [← h1, ← h2]
end Go.Rf


/- Own work: automata of pairs (plain law). -/
set_option linter.unusedVariables false
set_option linter.unusedSectionVars false
set_option linter.unusedSimpArgs false
namespace Go.Rf
open Go.RowKit
/-- Any numbering of states, whose classes are of states that accept the same. -/
def lsS (d : Det) (c : List Int) : LSt := lgo d c (d.next.length + 1) 0 ([0], [], [])
def lsD (d : Det) (c : List Int) : Det := ⟨d.signs, (lsS d c).2.1, (lsS d c).2.2⟩
theorem lsS_spec {d : Det} (R : RightD d) (c : List Int) : ∃ k, lsS d c = lsF d c k ∧ k = (lsS d c).1.length ∧ (∀ m, m < k → m < (lsF d c m).1.length) ∧ LOk d c k (lsS d c) := by
  obtain ⟨k, h1, h2, h3⟩ := lgo_end R c (d.next.length + 1) 0 (fun m h => by omega) (by omega)
  have e : lsS d c = lsF d c k := h1
  exact ⟨k, e, by rw [e]; exact h2, h3, by rw [e]; exact lst_ok R _ k h3⟩
theorem lsD_ok {d : Det} (R : RightD d) {c : List Int} (clsEq : ∀ p q, p < d.next.length → q < d.next.length → clsN c p = clsN c q → Eqv d p q) : RightD (lsD d c) ∧ XEq (lsD d c) d 0 0 := by
  obtain ⟨k, h1, h2, h3, o⟩ := lsS_spec R c
  have hle := o.len
  have h0 := (List.getElem?_eq_some_iff.mp o.zero).1
  have hs1 := R.s1
  have hn2 := R.n2
  have hnx := o.nx
  have hen := o.en
  have D : RightD (lsD d c) := by
    refine ⟨R.s1, R.s2, by show 1 ≤ (lsS d c).2.1.length; omega, by show (lsS d c).2.1.length ≤ 3000; omega, by show (lsS d c).2.2.length = (lsS d c).2.1.length; omega, fun i hi => ?_, fun i hi j hj => ?_⟩
    · have hi' : i < (lsS d c).2.1.length := hi
      obtain ⟨q, r, b1, b2, b3, b4, b5⟩ := o.row i (by omega)
      obtain ⟨_, e⟩ := List.getElem?_eq_some_iff.mp b3
      show (((lsS d c).2.1[i]'hi').length : Int) = d.signs
      rw [e, b4]
      omega
    · have hi' : i < (lsS d c).2.1.length := hi
      obtain ⟨q, r, b1, b2, b3, b4, b5⟩ := o.row i (by omega)
      obtain ⟨_, e⟩ := List.getElem?_eq_some_iff.mp b3
      subst e
      have hj' : j < ((lsS d c).2.1[i]'hi').length := hj
      obtain ⟨t, c1, q', c2, c3⟩ := b5 j (by omega)
      obtain ⟨_, c4⟩ := List.getElem?_eq_some_iff.mp c1
      have ht := (List.getElem?_eq_some_iff.mp c2).1
      show 0 ≤ ((lsS d c).2.1[i]'hi')[j]'hj' ∧ ((lsS d c).2.1[i]'hi')[j]'hj' < ((lsS d c).2.1.length : Int)
      rw [c4]
      omega
  refine ⟨D, ?_⟩
  have fin : ∀ a q, (lsS d c).1[a]? = some q → finB (lsD d c) a = finB d q := by
    intro a q ha
    have hal := (List.getElem?_eq_some_iff.mp ha).1
    obtain ⟨q', r, b1, b2, b3, b4, b5⟩ := o.row a (by omega)
    rw [ha] at b1; cases b1
    show (lsS d c).2.2.getD a false = _
    rw [List.getD_eq_getElem?_getD, b2]; rfl
  have key : ∀ (l : List Int) (a q : Nat), (lsS d c).1[a]? = some q → Vl d l → finB (lsD d c) (runT (lsD d c) a l) = finB d (runT d q l) := by
    intro l
    induction l with
    | nil => intro a q ha _; exact fin a q ha
    | cons s l ih =>
      intro a q ha hl
      have hs := hl s (by simp)
      have hal := (List.getElem?_eq_some_iff.mp ha).1
      have hq := o.lt q (List.mem_of_getElem? ha)
      obtain ⟨q', r, b1, b2, b3, b4, b5⟩ := o.row a (by omega)
      rw [ha] at b1; cases b1
      obtain ⟨j, c1, p, c2, c3⟩ := b5 s.toNat (by omega)
      have e : ((s.toNat : Nat) : Int) = s := by omega
      rw [e] at c3
      have hp := o.lt p (List.mem_of_getElem? c2)
      have hst : stepD (lsD d c) a s = j := by
        show (((lsS d c).2.1.getD a []).getD s.toNat 0).toNat = j
        simp only [List.getD_eq_getElem?_getD, b3, Option.getD_some, c1, Int.toNat_natCast]
      have hpe : Eqv d p (stepD d q s) := clsEq p _ hp (step_lt R hq hs.1 hs.2) c3
      have hl' : Vl d l := fun x hx => hl x (by simp [hx])
      have h := ih j p c2 hl'
      show finB (lsD d c) (runT (lsD d c) (stepD (lsD d c) a s) l) = finB d (runT d (stepD d q s) l)
      rw [hst, h]
      exact hpe l hl'
  intro l hl
  exact key l 0 0 o.zero hl
/-! ### pairs of states as one state -/
def bigD (a b : Det) (mk : Bool → Bool → Bool) : Det :=
  ⟨a.signs, (List.range (a.next.length * b.next.length)).map fun q => (List.range a.signs.toNat).map fun (s : Nat) => ((stepD a (q / b.next.length) s * b.next.length + stepD b (q % b.next.length) s : Nat) : Int),
    (List.range (a.next.length * b.next.length)).map fun q => mk (finB a (q / b.next.length)) (finB b (q % b.next.length))⟩
def idcN (n : Nat) : List Int := (List.range n).map fun (q : Nat) => (q : Int)
def prodD (a b : Det) (mk : Bool → Bool → Bool) : Det := lsD (bigD a b mk) (idcN (a.next.length * b.next.length))
section
variable {a b : Det} {mk : Bool → Bool → Bool}
theorem big_len (a b : Det) (mk : Bool → Bool → Bool) : (bigD a b mk).next.length = a.next.length * b.next.length := by simp [bigD]
theorem big_div (Rb : RightD b) {q : Nat} (hq : q < a.next.length * b.next.length) : q / b.next.length < a.next.length ∧ q % b.next.length < b.next.length := by
  have := Rb.n1
  exact ⟨(Nat.div_lt_iff_lt_mul (by omega)).mpr hq, Nat.mod_lt _ (by omega)⟩
theorem pair_lt {x y : Nat} (hx : x < a.next.length) (hy : y < b.next.length) : x * b.next.length + y < a.next.length * b.next.length := by
  have : (x + 1) * b.next.length ≤ a.next.length * b.next.length := Nat.mul_le_mul_right _ hx
  rw [Nat.add_mul] at this; omega
theorem pair_div {x y n : Nat} (hy : y < n) : (x * n + y) / n = x ∧ (x * n + y) % n = y := by
  constructor
  · rw [Nat.mul_comm, Nat.mul_add_div (by omega), Nat.div_eq_of_lt hy, Nat.add_zero]
  · rw [Nat.mul_comm, Nat.mul_add_mod, Nat.mod_eq_of_lt hy]
theorem big_step (hs : a.signs = b.signs) {q : Nat} (hq : q < a.next.length * b.next.length) {s : Int} (h0 : 0 ≤ s) (h1 : s < a.signs) :
    stepD (bigD a b mk) q s = stepD a (q / b.next.length) s * b.next.length + stepD b (q % b.next.length) s := by
  have e : ((s.toNat : Nat) : Int) = s := by omega
  have hsn : s.toNat < a.signs.toNat := by omega
  unfold stepD
  simp only [bigD, List.getD_eq_getElem?_getD, List.getElem?_map, List.getElem?_range hq, Option.map_some, Option.getD_some, List.getElem?_range hsn, e, Int.toNat_natCast]
  rfl
theorem big_ok (Ra : RightD a) (Rb : RightD b) (hs : a.signs = b.signs) (hl : a.next.length * b.next.length ≤ 3000) : RightD (bigD a b mk) := by
  have h1 := Ra.n1
  have h2 := Rb.n1
  have h3 := Ra.s1
  refine ⟨Ra.s1, Ra.s2, by rw [big_len]; exact Nat.mul_pos h1 h2, by rw [big_len]; exact hl, by simp [bigD], fun i hi => ?_, fun i hi j hj => ?_⟩
  · simp only [bigD, List.getElem_map, List.length_map, List.length_range]; omega
  · rw [big_len] at hi
    obtain ⟨k1, k2⟩ := big_div (a := a) Rb hi
    simp only [bigD, List.getElem_map, List.length_map, List.length_range] at hj
    have g1 := step_lt Ra k1 (s := (j : Int)) (by omega) (by omega)
    have g2 := step_lt Rb k2 (s := (j : Int)) (by omega) (by omega)
    have := pair_lt (a := a) (b := b) g1 g2
    rw [big_len]
    simp only [bigD, List.getElem_map, List.getElem_range]
    omega
theorem big_run (Ra : RightD a) (Rb : RightD b) (hs : a.signs = b.signs) : ∀ (l : List Int) (q : Nat), q < a.next.length * b.next.length → Vl a l →
    runT (bigD a b mk) q l = runT a (q / b.next.length) l * b.next.length + runT b (q % b.next.length) l
  | [], q, _, _ => by
    simp only [runT, List.foldl_nil]
    rw [Nat.mul_comm]; exact (Nat.div_add_mod q _).symm
  | s :: l, q, hq, hl => by
    have hs1 := hl s (by simp)
    have hl' : Vl a l := fun x hx => hl x (by simp [hx])
    obtain ⟨k1, k2⟩ := big_div (a := a) Rb hq
    have g1 := step_lt Ra k1 hs1.1 hs1.2
    have g2 := step_lt Rb k2 hs1.1 (by rw [← hs]; exact hs1.2)
    have e : ∀ (d : Det) (p : Nat), runT d p (s :: l) = runT d (stepD d p s) l := fun _ _ => rfl
    rw [e, e, e, big_step hs hq hs1.1 hs1.2, big_run Ra Rb hs l _ (pair_lt g1 g2) hl']
    obtain ⟨d1, d2⟩ := pair_div (x := stepD a (q / b.next.length) s) g2
    rw [d1, d2]
theorem big_fin (Ra : RightD a) (Rb : RightD b) (hs : a.signs = b.signs) {l : List Int} (hl : Vl a l) : finB (bigD a b mk) (runT (bigD a b mk) 0 l) = mk (finB a (runT a 0 l)) (finB b (runT b 0 l)) := by
  have h1 := Ra.n1
  have h2 := Rb.n1
  have hl' : Vl b l := fun x hx => by rw [← hs]; exact hl x hx
  rw [big_run Ra Rb hs l 0 (Nat.mul_pos h1 h2) hl, Nat.zero_div, Nat.zero_mod]
  have g1 := runT_lt Ra l (a := 0) (by omega) hl
  have g2 := runT_lt Rb l (a := 0) (by omega) hl'
  obtain ⟨d1, d2⟩ := pair_div (x := runT a 0 l) g2
  have hq := pair_lt (a := a) (b := b) g1 g2
  show ((List.range (a.next.length * b.next.length)).map fun q => mk (finB a (q / b.next.length)) (finB b (q % b.next.length))).getD _ false = _
  simp only [List.getD_eq_getElem?_getD, List.getElem?_map, List.getElem?_range hq, Option.map_some, Option.getD_some, d1, d2]
theorem idc_get {n q : Nat} (h : q < n) : clsN (idcN n) q = (q : Int) := by simp [clsN, idcN, List.getD_eq_getElem?_getD, h]
theorem prod_ok (Ra : RightD a) (Rb : RightD b) (hs : a.signs = b.signs) (hl : a.next.length * b.next.length ≤ 3000) : RightD (prodD a b mk) ∧ ∀ l, Vl a l → finB (prodD a b mk) (runT (prodD a b mk) 0 l) = mk (finB a (runT a 0 l)) (finB b (runT b 0 l)) := by
  obtain ⟨D, hx⟩ := lsD_ok (big_ok (mk := mk) Ra Rb hs hl) (c := idcN (a.next.length * b.next.length)) (fun p q hp hq h => by
    rw [big_len] at hp hq
    rw [idc_get hp, idc_get hq] at h
    have : p = q := by omega
    subst this; exact Eqv.refl _ _)
  refine ⟨D, fun l hlv => ?_⟩
  rw [← big_fin (mk := mk) Ra Rb hs hlv]
  exact hx l hlv
end
end Go.Rf

