import Derived.Test.YtajombmjidnbcaaDoorRfQ3
/- Own work: the least one is one alone (plain law). -/
set_option linter.unusedVariables false
namespace Go.Rf
open Go.RowKit
/-- From these states on the two accept the same. -/
def XEq (a b : Det) (i k : Nat) : Prop := ∀ l, Vl a l → finB a (runT a i l) = finB b (runT b k l)
theorem XEq.step {a b : Det} {i k : Nat} (h : XEq a b i k) {s : Int} (h0 : 0 ≤ s) (hs : s < a.signs) : XEq a b (stepD a i s) (stepD b k s) := fun l hl => by
  have := h (s :: l) (fun x hx => by
    rcases List.mem_cons.mp hx with rfl | hx
    · exact ⟨h0, hs⟩
    · exact hl x hx)
  exact this
theorem XEq.eqv {a b : Det} {i k i' k' : Nat} (hs : a.signs = b.signs) (h : XEq a b i k) (h' : XEq a b i' k') : Eqv a i i' ↔ Eqv b k k' := by
  constructor
  · intro he l hl
    have hl' : Vl a l := fun x hx => by rw [hs]; exact hl x hx
    rw [← h l hl', ← h' l hl']; exact he l hl'
  · intro he l hl
    have hl' : Vl b l := fun x hx => by rw [← hs]; exact hl x hx
    rw [h l hl, h' l hl]; exact he l hl'
theorem idxOf_par : ∀ {xs ys : List Int} {x y : Int}, xs.length = ys.length → (∀ j (h1 : j < xs.length) (h2 : j < ys.length), xs[j] = x ↔ ys[j] = y) → (x ∈ xs ↔ y ∈ ys) ∧ xs.idxOf x = ys.idxOf y
  | [], [], _, _, _, _ => by simp
  | [], _ :: _, _, _, h, _ => by simp at h
  | _ :: _, [], _, _, h, _ => by simp at h
  | p :: xs, q :: ys, x, y, hl, h => by
    obtain ⟨i1, i2⟩ := idxOf_par (xs := xs) (ys := ys) (x := x) (y := y) (by simpa using hl) (fun j h1 h2 => by
      have := h (j + 1) (by simpa using h1) (by simpa using h2)
      simpa using this)
    have h0 := h 0 (by simp) (by simp)
    simp only [List.getElem_cons_zero] at h0
    constructor
    · simp only [List.mem_cons, i1]
      exact ⟨fun e => e.elim (fun e => .inl (h0.mp e.symm).symm) .inr, fun e => e.elim (fun e => .inl (h0.mpr e.symm).symm) .inr⟩
    · rw [List.idxOf_cons, List.idxOf_cons, i2]
      by_cases e : p = x
      · have e2 := h0.mp e
        rw [beq_iff_eq.mpr e, beq_iff_eq.mpr e2]
      · have e2 : ¬ q = y := fun e2 => e (h0.mpr e2)
        rw [beq_eq_false_iff_ne.mpr e, beq_eq_false_iff_ne.mpr e2]
structure Par (a b : Det) (L M : List Nat) : Prop where
  len : L.length = M.length
  at_ : ∀ j (h1 : j < L.length) (h2 : j < M.length), L[j] < a.next.length ∧ M[j] < b.next.length ∧ XEq a b L[j] M[j]
theorem par_num {a b : Det} (hs : a.signs = b.signs) {ca cb : List Int} (Ca : ClsD a ca) (Cb : ClsD b cb) {L M : List Nat} (h : Par a b L M) {t u : Nat} (ht : t < a.next.length) (hu : u < b.next.length) (he : XEq a b t u) :
    (lnum ca L t).2 = (lnum cb M u).2 ∧ Par a b (lnum ca L t).1 (lnum cb M u).1 := by
  obtain ⟨i1, i2⟩ := idxOf_par (xs := L.map (clsN ca)) (ys := M.map (clsN cb)) (x := clsN ca t) (y := clsN cb u) (by simpa using h.len) (fun j h1 h2 => by
    simp only [List.length_map] at h1 h2
    simp only [List.getElem_map]
    obtain ⟨k1, k2, k3⟩ := h.at_ j h1 h2
    exact ((Ca.eq _ _ k1 ht).trans (k3.eqv hs he)).trans (Cb.eq _ _ k2 hu).symm)
  unfold lnum
  by_cases hm : clsN ca t ∈ L.map (clsN ca)
  · rw [if_pos hm, if_pos (i1.mp hm)]
    exact ⟨i2, h⟩
  · rw [if_neg hm, if_neg (fun e => hm (i1.mpr e))]
    refine ⟨h.len, by simp [h.len], fun j h1 h2 => ?_⟩
    by_cases hj : j < L.length
    · have hj2 : j < M.length := by rw [← h.len]; exact hj
      rw [List.getElem_append_left hj, List.getElem_append_left hj2]
      exact h.at_ j hj hj2
    · simp only [List.length_append, List.length_singleton] at h1 h2
      have hjL : j = L.length := by omega
      subst hjL
      have hl := h.len
      rw [List.getElem_append_right (by omega), List.getElem_append_right (by omega)]
      simp only [List.getElem_singleton]
      exact ⟨ht, hu, he⟩
theorem par_row {a b : Det} (hs : a.signs = b.signs) {ca cb : List Int} (Ca : ClsD a ca) (Cb : ClsD b cb) {L M : List Nat} (h : Par a b L M) {t u : Nat → Nat} : ∀ k : Nat, (∀ s, s < k → t s < a.next.length ∧ u s < b.next.length ∧ XEq a b (t s) (u s)) →
    (lrow ca t k L).2 = (lrow cb u k M).2 ∧ Par a b (lrow ca t k L).1 (lrow cb u k M).1
  | 0, _ => ⟨rfl, h⟩
  | k + 1, hk => by
    obtain ⟨i1, i2⟩ := par_row hs Ca Cb h (t := t) (u := u) k (fun s hs => hk s (by omega))
    obtain ⟨h1, h2, h3⟩ := hk k (by omega)
    obtain ⟨j1, j2⟩ := par_num hs Ca Cb i2 h1 h2 h3
    simp only [lrow]
    exact ⟨by rw [i1, j1], j2⟩
theorem par_ls {a b : Det} (Ra : RightD a) (Rb : RightD b) (hs : a.signs = b.signs) {ca cb : List Int} (Ca : ClsD a ca) (Cb : ClsD b cb) (h0 : XEq a b 0 0) : ∀ i, (lsF a ca i).2 = (lsF b cb i).2 ∧ Par a b (lsF a ca i).1 (lsF b cb i).1
  | 0 => by
    refine ⟨rfl, rfl, fun j h1 h2 => ?_⟩
    have hj : j = 0 := by simp [lsF] at h1; omega
    subst hj
    exact ⟨by have := Ra.n1; simp [lsF]; omega, by have := Rb.n1; simp [lsF]; omega, h0⟩
  | i + 1 => by
    obtain ⟨i1, i2⟩ := par_ls Ra Rb hs Ca Cb h0 i
    have hl := i2.len
    simp only [lsF, lnx]
    by_cases hi : i < (lsF a ca i).1.length
    · have hi2 : i < (lsF b cb i).1.length := by omega
      rw [List.getElem?_eq_getElem hi, List.getElem?_eq_getElem hi2]
      simp only
      obtain ⟨k1, k2, k3⟩ := i2.at_ i hi hi2
      obtain ⟨r1, r2⟩ := par_row hs Ca Cb i2 (t := fun s => stepD a ((lsF a ca i).1[i]) s) (u := fun s => stepD b ((lsF b cb i).1[i]) s) a.signs.toNat (fun s hs2 =>
        ⟨step_lt Ra k1 (by omega) (by omega), step_lt Rb k2 (by omega) (by omega), k3.step (by omega) (by omega)⟩)
      have hf : finB a ((lsF a ca i).1[i]) = finB b ((lsF b cb i).1[i]) := k3 [] (fun s hs => by simp at hs)
      have e1 : (lsF a ca i).2.1 = (lsF b cb i).2.1 := by rw [i1]
      have e2 : (lsF a ca i).2.2 = (lsF b cb i).2.2 := by rw [i1]
      rw [← hs]
      exact ⟨by rw [r1, hf, e1, e2], r2⟩
    · rw [List.getElem?_eq_none (by omega), List.getElem?_eq_none (by omega)]
      exact ⟨i1, i2⟩
theorem lalone {a b : Det} (Ra : RightD a) (Rb : RightD b) (hs : a.signs = b.signs) (h0 : XEq a b 0 0) : leastD a = leastD b := by
  have P := par_ls Ra Rb hs (classesD_ok Ra) (classesD_ok Rb) h0
  obtain ⟨k, e1, e2, e3, _⟩ := leastS_spec Ra
  obtain ⟨m, f1, f2, f3, _⟩ := leastS_spec Rb
  have hkm : k = m := by
    rcases Nat.lt_trichotomy k m with h | h | h
    · have := f3 k h
      have hl := (P k).2.len
      rw [← e1] at hl; omega
    · exact h
    · have := e3 m h
      have hl := (P m).2.len
      rw [← f1] at hl; omega
  subst hkm
  have : (leastS a).2 = (leastS b).2 := by rw [e1, f1]; exact (P k).1
  unfold leastD
  rw [hs, this]
theorem least_xeq {d : Det} (R : RightD d) : XEq (leastD d) d 0 0 := by
  obtain ⟨k, h1, h2, h3, o⟩ := leastS_spec R
  intro l hl
  obtain ⟨q', _, _, h⟩ := (leastD_ok R).2.2 l 0 0 o.zero hl
  exact h
theorem least_idem {d : Det} (R : RightD d) : leastD (leastD d) = leastD d := lalone (leastD_ok R).1 R rfl (least_xeq R)
/-- Another order than least_xeq's. -/
theorem least_acc {d : Det} (R : RightD d) (l : List Int) : accD (leastD d) l = accD d l := by
  have e1 : rightD d = true := (right_iff d).mpr R
  have e2 : rightD (leastD d) = true := (right_iff _).mpr (leastD_ok R).1
  unfold accD runD
  rw [if_pos e1, if_pos e2]
  by_cases hl : Vl d l
  · rw [runFrom_T l 0 hl, runFrom_T (d := leastD d) l 0 hl]
    exact least_xeq R l hl
  · rw [runFrom_bad l 0 hl, runFrom_bad (d := leastD d) l 0 hl]
theorem least_le {d : Det} (R : RightD d) : (leastD d).next.length ≤ d.next.length := by
  obtain ⟨k, h1, h2, h3, o⟩ := leastS_spec R
  rw [(leastD_ok R).2.1]; exact o.len
/-- No two of its states are alike. -/
theorem least_apart {d : Det} (R : RightD d) {i k : Nat} (hi : i < (leastD d).next.length) (hk : k < (leastD d).next.length) (h : Eqv (leastD d) i k) : i = k := by
  obtain ⟨m, h1, h2, h3, o⟩ := leastS_spec R
  obtain ⟨D, hlen, hrun⟩ := leastD_ok R
  rw [hlen] at hi hk
  have C := classesD_ok R
  have e1 := List.getElem?_eq_getElem hi
  have e2 := List.getElem?_eq_getElem hk
  have hq1 := o.lt _ (List.getElem_mem hi)
  have hq2 := o.lt _ (List.getElem_mem hk)
  have hE : Eqv d ((leastS d).1[i]) ((leastS d).1[k]) := fun l hl => by
    obtain ⟨_, _, _, a3⟩ := hrun l i _ e1 hl
    obtain ⟨_, _, _, b3⟩ := hrun l k _ e2 hl
    rw [← a3, ← b3]; exact h l hl
  have hc := (C.eq _ _ hq1 hq2).mpr hE
  have hnd := List.pairwise_iff_getElem.mp o.nd
  rcases Nat.lt_trichotomy i k with h | h | h
  · have := hnd i k (by simpa using hi) (by simpa using hk) h
    simp only [List.getElem_map] at this
    exact (this hc).elim
  · exact h
  · have := hnd k i (by simpa using hk) (by simpa using hi) h
    simp only [List.getElem_map] at this
    exact (this hc.symm).elim
/-- All are come to. -/
theorem least_reach {d : Det} (R : RightD d) : ∀ j, j < (leastD d).next.length → ∃ l, Vl (leastD d) l ∧ runT (leastD d) 0 l = j := by
  obtain ⟨m, h1, h2, h3, o⟩ := leastS_spec R
  rw [(leastD_ok R).2.1]
  intro j
  induction j using Nat.strongRecOn with
  | _ j ih =>
    intro hj
    by_cases h0 : j = 0
    · subst h0; exact ⟨[], fun s hs => by simp at hs, rfl⟩
    · obtain ⟨k, hk, hkj, r, s, b1, b2, b3⟩ := o.bor j (by omega) hj
      obtain ⟨l, hl, he⟩ := ih k hkj (by omega)
      refine ⟨l ++ [(s : Int)], fun x hx => ?_, ?_⟩
      · rcases List.mem_append.mp hx with hx | hx
        · exact hl x hx
        · rw [List.mem_singleton] at hx; subst hx
          show 0 ≤ (s : Int) ∧ (s : Int) < d.signs
          omega
      · have : runT (leastD d) 0 (l ++ [(s : Int)]) = stepD (leastD d) (runT (leastD d) 0 l) s := by simp [runT]
        rw [this, he]
        show (((leastS d).2.1.getD k []).getD (s : Int).toNat 0).toNat = j
        simp only [List.getD_eq_getElem?_getD, b1, Option.getD_some, Int.toNat_natCast, b3]
end Go.Rf

