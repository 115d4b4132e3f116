import Derived.Test.YtajombmjidnbcaaDoorRfQ5
/- Own work: automata of pairs (plain law). -/
set_option linter.unusedVariables false
set_option linter.unusedSectionVars false
set_option linter.unusedSimpArgs false
namespace Go.Rf
open Go.RowKit
/-- Any numbering of states, whose classes are of states that accept the same. -/
def lsS (d : Det) (c : List Int) : LSt := lgo d c (d.next.length + 1) 0 ([0], [], [])
def lsD (d : Det) (c : List Int) : Det := ⟨d.signs, (lsS d c).2.1, (lsS d c).2.2⟩
theorem lsS_spec {d : Det} (R : RightD d) (c : List Int) : ∃ k, lsS d c = lsF d c k ∧ k = (lsS d c).1.length ∧ (∀ m, m < k → m < (lsF d c m).1.length) ∧ LOk d c k (lsS d c) := by
  obtain ⟨k, h1, h2, h3⟩ := lgo_end R c (d.next.length + 1) 0 (fun m h => by omega) (by omega)
  have e : lsS d c = lsF d c k := h1
  exact ⟨k, e, by rw [e]; exact h2, h3, by rw [e]; exact lst_ok R _ k h3⟩
theorem lsD_ok {d : Det} (R : RightD d) {c : List Int} (clsEq : ∀ p q, p < d.next.length → q < d.next.length → clsN c p = clsN c q → Eqv d p q) : RightD (lsD d c) ∧ XEq (lsD d c) d 0 0 := by
  obtain ⟨k, h1, h2, h3, o⟩ := lsS_spec R c
  have hle := o.len
  have h0 := (List.getElem?_eq_some_iff.mp o.zero).1
  have hs1 := R.s1
  have hn2 := R.n2
  have hnx := o.nx
  have hen := o.en
  have D : RightD (lsD d c) := by
    refine ⟨R.s1, R.s2, by show 1 ≤ (lsS d c).2.1.length; omega, by show (lsS d c).2.1.length ≤ 3000; omega, by show (lsS d c).2.2.length = (lsS d c).2.1.length; omega, fun i hi => ?_, fun i hi j hj => ?_⟩
    · have hi' : i < (lsS d c).2.1.length := hi
      obtain ⟨q, r, b1, b2, b3, b4, b5⟩ := o.row i (by omega)
      obtain ⟨_, e⟩ := List.getElem?_eq_some_iff.mp b3
      show (((lsS d c).2.1[i]'hi').length : Int) = d.signs
      rw [e, b4]
      omega
    · have hi' : i < (lsS d c).2.1.length := hi
      obtain ⟨q, r, b1, b2, b3, b4, b5⟩ := o.row i (by omega)
      obtain ⟨_, e⟩ := List.getElem?_eq_some_iff.mp b3
      subst e
      have hj' : j < ((lsS d c).2.1[i]'hi').length := hj
      obtain ⟨t, c1, q', c2, c3⟩ := b5 j (by omega)
      obtain ⟨_, c4⟩ := List.getElem?_eq_some_iff.mp c1
      have ht := (List.getElem?_eq_some_iff.mp c2).1
      show 0 ≤ ((lsS d c).2.1[i]'hi')[j]'hj' ∧ ((lsS d c).2.1[i]'hi')[j]'hj' < ((lsS d c).2.1.length : Int)
      rw [c4]
      omega
  refine ⟨D, ?_⟩
  have fin : ∀ a q, (lsS d c).1[a]? = some q → finB (lsD d c) a = finB d q := by
    intro a q ha
    have hal := (List.getElem?_eq_some_iff.mp ha).1
    obtain ⟨q', r, b1, b2, b3, b4, b5⟩ := o.row a (by omega)
    rw [ha] at b1; cases b1
    show (lsS d c).2.2.getD a false = _
    rw [List.getD_eq_getElem?_getD, b2]; rfl
  have key : ∀ (l : List Int) (a q : Nat), (lsS d c).1[a]? = some q → Vl d l → finB (lsD d c) (runT (lsD d c) a l) = finB d (runT d q l) := by
    intro l
    induction l with
    | nil => intro a q ha _; exact fin a q ha
    | cons s l ih =>
      intro a q ha hl
      have hs := hl s (by simp)
      have hal := (List.getElem?_eq_some_iff.mp ha).1
      have hq := o.lt q (List.mem_of_getElem? ha)
      obtain ⟨q', r, b1, b2, b3, b4, b5⟩ := o.row a (by omega)
      rw [ha] at b1; cases b1
      obtain ⟨j, c1, p, c2, c3⟩ := b5 s.toNat (by omega)
      have e : ((s.toNat : Nat) : Int) = s := by omega
      rw [e] at c3
      have hp := o.lt p (List.mem_of_getElem? c2)
      have hst : stepD (lsD d c) a s = j := by
        show (((lsS d c).2.1.getD a []).getD s.toNat 0).toNat = j
        simp only [List.getD_eq_getElem?_getD, b3, Option.getD_some, c1, Int.toNat_natCast]
      have hpe : Eqv d p (stepD d q s) := clsEq p _ hp (step_lt R hq hs.1 hs.2) c3
      have hl' : Vl d l := fun x hx => hl x (by simp [hx])
      have h := ih j p c2 hl'
      show finB (lsD d c) (runT (lsD d c) (stepD (lsD d c) a s) l) = finB d (runT d (stepD d q s) l)
      rw [hst, h]
      exact hpe l hl'
  intro l hl
  exact key l 0 0 o.zero hl
/-! ### pairs of states as one state -/
def bigD (a b : Det) (mk : Bool → Bool → Bool) : Det :=
  ⟨a.signs, (List.range (a.next.length * b.next.length)).map fun q => (List.range a.signs.toNat).map fun (s : Nat) => ((stepD a (q / b.next.length) s * b.next.length + stepD b (q % b.next.length) s : Nat) : Int),
    (List.range (a.next.length * b.next.length)).map fun q => mk (finB a (q / b.next.length)) (finB b (q % b.next.length))⟩
def idcN (n : Nat) : List Int := (List.range n).map fun (q : Nat) => (q : Int)
def prodD (a b : Det) (mk : Bool → Bool → Bool) : Det := lsD (bigD a b mk) (idcN (a.next.length * b.next.length))
section
variable {a b : Det} {mk : Bool → Bool → Bool}
theorem big_len (a b : Det) (mk : Bool → Bool → Bool) : (bigD a b mk).next.length = a.next.length * b.next.length := by simp [bigD]
theorem big_div (Rb : RightD b) {q : Nat} (hq : q < a.next.length * b.next.length) : q / b.next.length < a.next.length ∧ q % b.next.length < b.next.length := by
  have := Rb.n1
  exact ⟨(Nat.div_lt_iff_lt_mul (by omega)).mpr hq, Nat.mod_lt _ (by omega)⟩
theorem pair_lt {x y : Nat} (hx : x < a.next.length) (hy : y < b.next.length) : x * b.next.length + y < a.next.length * b.next.length := by
  have : (x + 1) * b.next.length ≤ a.next.length * b.next.length := Nat.mul_le_mul_right _ hx
  rw [Nat.add_mul] at this; omega
theorem pair_div {x y n : Nat} (hy : y < n) : (x * n + y) / n = x ∧ (x * n + y) % n = y := by
  constructor
  · rw [Nat.mul_comm, Nat.mul_add_div (by omega), Nat.div_eq_of_lt hy, Nat.add_zero]
  · rw [Nat.mul_comm, Nat.mul_add_mod, Nat.mod_eq_of_lt hy]
theorem big_step (hs : a.signs = b.signs) {q : Nat} (hq : q < a.next.length * b.next.length) {s : Int} (h0 : 0 ≤ s) (h1 : s < a.signs) :
    stepD (bigD a b mk) q s = stepD a (q / b.next.length) s * b.next.length + stepD b (q % b.next.length) s := by
  have e : ((s.toNat : Nat) : Int) = s := by omega
  have hsn : s.toNat < a.signs.toNat := by omega
  unfold stepD
  simp only [bigD, List.getD_eq_getElem?_getD, List.getElem?_map, List.getElem?_range hq, Option.map_some, Option.getD_some, List.getElem?_range hsn, e, Int.toNat_natCast]
  rfl
theorem big_ok (Ra : RightD a) (Rb : RightD b) (hs : a.signs = b.signs) (hl : a.next.length * b.next.length ≤ 3000) : RightD (bigD a b mk) := by
  have h1 := Ra.n1
  have h2 := Rb.n1
  have h3 := Ra.s1
  refine ⟨Ra.s1, Ra.s2, by rw [big_len]; exact Nat.mul_pos h1 h2, by rw [big_len]; exact hl, by simp [bigD], fun i hi => ?_, fun i hi j hj => ?_⟩
  · simp only [bigD, List.getElem_map, List.length_map, List.length_range]; omega
  · rw [big_len] at hi
    obtain ⟨k1, k2⟩ := big_div (a := a) Rb hi
    simp only [bigD, List.getElem_map, List.length_map, List.length_range] at hj
    have g1 := step_lt Ra k1 (s := (j : Int)) (by omega) (by omega)
    have g2 := step_lt Rb k2 (s := (j : Int)) (by omega) (by omega)
    have := pair_lt (a := a) (b := b) g1 g2
    rw [big_len]
    simp only [bigD, List.getElem_map, List.getElem_range]
    omega
theorem big_run (Ra : RightD a) (Rb : RightD b) (hs : a.signs = b.signs) : ∀ (l : List Int) (q : Nat), q < a.next.length * b.next.length → Vl a l →
    runT (bigD a b mk) q l = runT a (q / b.next.length) l * b.next.length + runT b (q % b.next.length) l
  | [], q, _, _ => by
    simp only [runT, List.foldl_nil]
    rw [Nat.mul_comm]; exact (Nat.div_add_mod q _).symm
  | s :: l, q, hq, hl => by
    have hs1 := hl s (by simp)
    have hl' : Vl a l := fun x hx => hl x (by simp [hx])
    obtain ⟨k1, k2⟩ := big_div (a := a) Rb hq
    have g1 := step_lt Ra k1 hs1.1 hs1.2
    have g2 := step_lt Rb k2 hs1.1 (by rw [← hs]; exact hs1.2)
    have e : ∀ (d : Det) (p : Nat), runT d p (s :: l) = runT d (stepD d p s) l := fun _ _ => rfl
    rw [e, e, e, big_step hs hq hs1.1 hs1.2, big_run Ra Rb hs l _ (pair_lt g1 g2) hl']
    obtain ⟨d1, d2⟩ := pair_div (x := stepD a (q / b.next.length) s) g2
    rw [d1, d2]
theorem big_fin (Ra : RightD a) (Rb : RightD b) (hs : a.signs = b.signs) {l : List Int} (hl : Vl a l) : finB (bigD a b mk) (runT (bigD a b mk) 0 l) = mk (finB a (runT a 0 l)) (finB b (runT b 0 l)) := by
  have h1 := Ra.n1
  have h2 := Rb.n1
  have hl' : Vl b l := fun x hx => by rw [← hs]; exact hl x hx
  rw [big_run Ra Rb hs l 0 (Nat.mul_pos h1 h2) hl, Nat.zero_div, Nat.zero_mod]
  have g1 := runT_lt Ra l (a := 0) (by omega) hl
  have g2 := runT_lt Rb l (a := 0) (by omega) hl'
  obtain ⟨d1, d2⟩ := pair_div (x := runT a 0 l) g2
  have hq := pair_lt (a := a) (b := b) g1 g2
  show ((List.range (a.next.length * b.next.length)).map fun q => mk (finB a (q / b.next.length)) (finB b (q % b.next.length))).getD _ false = _
  simp only [List.getD_eq_getElem?_getD, List.getElem?_map, List.getElem?_range hq, Option.map_some, Option.getD_some, d1, d2]
theorem idc_get {n q : Nat} (h : q < n) : clsN (idcN n) q = (q : Int) := by simp [clsN, idcN, List.getD_eq_getElem?_getD, h]
theorem prod_ok (Ra : RightD a) (Rb : RightD b) (hs : a.signs = b.signs) (hl : a.next.length * b.next.length ≤ 3000) : RightD (prodD a b mk) ∧ ∀ l, Vl a l → finB (prodD a b mk) (runT (prodD a b mk) 0 l) = mk (finB a (runT a 0 l)) (finB b (runT b 0 l)) := by
  obtain ⟨D, hx⟩ := lsD_ok (big_ok (mk := mk) Ra Rb hs hl) (c := idcN (a.next.length * b.next.length)) (fun p q hp hq h => by
    rw [big_len] at hp hq
    rw [idc_get hp, idc_get hq] at h
    have : p = q := by omega
    subst this; exact Eqv.refl _ _)
  refine ⟨D, fun l hlv => ?_⟩
  rw [← big_fin (mk := mk) Ra Rb hs hlv]
  exact hx l hlv
end
end Go.Rf

