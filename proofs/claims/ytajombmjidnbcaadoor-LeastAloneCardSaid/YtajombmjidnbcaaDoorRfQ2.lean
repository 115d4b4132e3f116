import Derived.Test.YtajombmjidnbcaaDoorRfQ1
/- Own work: classes of states (plain laws): what is told apart by lists, and the classes that are made finer. -/
set_option linter.unusedVariables false
set_option linter.unusedSectionVars false
namespace Go.Rf

section
variable {K M : Type} [BEq K] [LawfulBEq K] [BEq M] [LawfulBEq M]
theorem num_refine {l : List K} {m : List M} (hl : l.length = m.length) (h : ∀ i j (h1 : i < l.length) (h2 : j < l.length), l[i] = l[j] → m[i]'(by omega) = m[j]'(by omega)) :
    (numF1 m).1.length ≤ (numF1 l).1.length ∧ ((numF1 m).1.length = (numF1 l).1.length → ∀ i j (h1 : i < l.length) (h2 : j < l.length), m[i]'(by omega) = m[j]'(by omega) → l[i] = l[j]) := by
  have key : ∀ n, n ≤ l.length → (numF1 (m.take n)).1.length ≤ (numF1 (l.take n)).1.length ∧
      ((numF1 (m.take n)).1.length = (numF1 (l.take n)).1.length → ∀ i j (h1 : i < n) (h2 : j < n) (h3 : i < l.length) (h4 : j < l.length), m[i]'(by omega) = m[j]'(by omega) → l[i] = l[j]) := by
    intro n
    induction n with
    | zero => intro _; exact ⟨by simp [numF1], fun _ i j h1 => by omega⟩
    | succ n ih =>
      intro hn
      have hnl : n < l.length := by omega
      have hnm : n < m.length := by omega
      obtain ⟨i1, i2⟩ := ih (by omega)
      have e1 : l.take (n + 1) = l.take n ++ [l[n]] := by rw [List.take_add_one, List.getElem?_eq_getElem hnl]; rfl
      have e2 : m.take (n + 1) = m.take n ++ [m[n]] := by rw [List.take_add_one, List.getElem?_eq_getElem hnm]; rfl
      have o1 := numF1_ok (l.take n)
      have o2 := numF1_ok (m.take n)
      rw [e1, e2, numF1_snoc, numF1_snoc]
      by_cases hin : l[n] ∈ (numF1 (l.take n)).1
      · obtain ⟨i, hi, ei⟩ : ∃ i, ∃ hi : i < n, l[i] = l[n] := by
          have := (o1.mem _).mp hin
          rw [List.mem_take_iff_getElem] at this
          obtain ⟨i, hi, e⟩ := this
          exact ⟨i, by omega, e⟩
        have em := h i n (by omega) hnl ei
        have hin2 : m[n] ∈ (numF1 (m.take n)).1 := (o2.mem _).mpr (List.mem_take_iff_getElem.mpr ⟨i, by omega, em⟩)
        have c1 : (numF1 (l.take n)).1.contains l[n] = true := by simpa using hin
        have c2 : (numF1 (m.take n)).1.contains m[n] = true := by simpa using hin2
        simp only [numStep, c1, c2, if_true]
        refine ⟨i1, fun hc a b ha hb ha2 hb2 hab => ?_⟩
        have i3 := i2 hc
        by_cases han : a < n
        · by_cases hbn : b < n
          · exact i3 a b han hbn ha2 hb2 hab
          · have : b = n := by omega
            subst this
            rw [← ei]
            exact i3 a i han hi ha2 (by omega) (hab.trans em.symm)
        · have : a = n := by omega
          subst this
          by_cases hbn : b < a
          · rw [← ei]
            exact i3 i b hi hbn (by omega) hb2 (em.trans hab)
          · have : b = a := by omega
            subst this; rfl
      · have c1 : (numF1 (l.take n)).1.contains l[n] = false := by simpa using hin
        cases c2 : (numF1 (m.take n)).1.contains m[n] with
        | true =>
          simp only [numStep, c1, c2, if_true, Bool.false_eq_true, if_false, List.length_append, List.length_cons, List.length_nil]
          exact ⟨by omega, fun hc => by omega⟩
        | false =>
          simp only [numStep, c1, c2, Bool.false_eq_true, if_false, List.length_append, List.length_cons, List.length_nil]
          have hin2 : m[n] ∉ (numF1 (m.take n)).1 := by simpa using c2
          refine ⟨by omega, fun hc a b ha hb ha2 hb2 hab => ?_⟩
          have i3 := i2 (by omega)
          by_cases han : a < n
          · by_cases hbn : b < n
            · exact i3 a b han hbn ha2 hb2 hab
            · have : b = n := by omega
              subst this
              exact (hin2 ((o2.mem _).mpr (List.mem_take_iff_getElem.mpr ⟨a, by omega, hab⟩))).elim
          · have : a = n := by omega
            subst this
            by_cases hbn : b < a
            · exact (hin2 ((o2.mem _).mpr (List.mem_take_iff_getElem.mpr ⟨b, by omega, hab.symm⟩))).elim
            · have : b = a := by omega
              subst this; rfl
  obtain ⟨a, b⟩ := key l.length (Nat.le_refl _)
  have e1 : l.take l.length = l := List.take_length
  have e2 : m.take l.length = m := by rw [hl]; exact List.take_length
  rw [e1, e2] at a b
  exact ⟨a, fun hc i j h1 h2 => b hc i j h1 h2 h1 h2⟩
theorem num_eq {l : List K} {i j : Nat} (hi : i < l.length) (hj : j < l.length) : (numF1 l).2[i]? = (numF1 l).2[j]? ↔ l[i] = l[j] := by
  have o := numF1_ok l
  rw [o.at_ i hi, o.at_ j hj]
  constructor
  · intro h
    simp only [Option.some.injEq] at h
    have hi2 : l[i] ∈ (numF1 l).1 := (o.mem _).mpr (List.getElem_mem hi)
    have hj2 : l[j] ∈ (numF1 l).1 := (o.mem _).mpr (List.getElem_mem hj)
    have h' : (numF1 l).1.idxOf l[i] = (numF1 l).1.idxOf l[j] := by omega
    have a1 := List.getElem_idxOf (List.idxOf_lt_length_of_mem hi2)
    have a2 := List.getElem_idxOf (List.idxOf_lt_length_of_mem hj2)
    rw [← a1, ← a2]
    congr 1
  · intro h; rw [h]
theorem num_le (l : List K) : (numF1 l).1.length ≤ l.length := by
  refine snocInd (p := fun l => (numF1 l).1.length ≤ l.length) (by simp [numF1]) (fun l x ih => ?_) l
  rw [numF1_snoc]; unfold numStep; split <;> simp <;> omega
end
theorem num_idem {K : Type} [BEq K] [LawfulBEq K] (l : List K) : (numF1 (numF1 l).2).2 = (numF1 l).2 := by
  have o := numF1_ok l
  refine (num_congr (l := (numF1 l).2) (m := l) o.len (fun i j h1 h2 => ?_)).1
  have e := num_eq (l := l) (i := i) (j := j) (by rw [← o.len]; exact h1) (by rw [← o.len]; exact h2)
  rw [List.getElem?_eq_getElem h1, List.getElem?_eq_getElem h2, Option.some.injEq] at e
  exact e
/-! ### states told apart -/
def runT (d : Det) (i : Nat) (l : List Int) : Nat := l.foldl (stepD d) i
def finB (d : Det) (i : Nat) : Bool := d.fin.getD i false
def Vl (d : Det) (l : List Int) : Prop := ∀ s ∈ l, 0 ≤ s ∧ s < d.signs
def EqvN (d : Det) (j i k : Nat) : Prop := ∀ l, Vl d l → l.length ≤ j → finB d (runT d i l) = finB d (runT d k l)
def Eqv (d : Det) (i k : Nat) : Prop := ∀ l, Vl d l → finB d (runT d i l) = finB d (runT d k l)
theorem step_lt {d : Det} (R : RightD d) {a : Nat} (ha : a < d.next.length) {s : Int} (h0 : 0 ≤ s) (hs : s < d.signs) : stepD d a s < d.next.length := (step_at R ha h0 hs).2.2
theorem runT_lt {d : Det} (R : RightD d) : ∀ (l : List Int) {a : Nat}, a < d.next.length → Vl d l → runT d a l < d.next.length
  | [], a, ha, _ => ha
  | s :: l, a, ha, h => runT_lt R l (step_lt R ha (h s (by simp)).1 (h s (by simp)).2) (fun x hx => h x (by simp [hx]))
theorem eqvN_succ {d : Det} {j i k : Nat} : EqvN d (j + 1) i k ↔ EqvN d j i k ∧ ∀ s, 0 ≤ s → s < d.signs → EqvN d j (stepD d i s) (stepD d k s) := by
  constructor
  · intro h
    refine ⟨fun l hl hlen => h l hl (by omega), fun s h0 hs l hl hlen => ?_⟩
    exact h (s :: l) (fun x hx => by rcases List.mem_cons.mp hx with rfl | hx; exact ⟨h0, hs⟩; exact hl x hx) (by simp; omega)
  · rintro ⟨h1, h2⟩ l hl hlen
    cases l with
    | nil => exact h1 [] hl (by simp)
    | cons s l =>
      have hs := hl s (by simp)
      exact h2 s hs.1 hs.2 l (fun x hx => hl x (by simp [hx])) (by simp at hlen; omega)
theorem eqv_step {d : Det} {i k : Nat} (h : Eqv d i k) {s : Int} (h0 : 0 ≤ s) (hs : s < d.signs) : Eqv d (stepD d i s) (stepD d k s) := fun l hl =>
  h (s :: l) (fun x hx => by rcases List.mem_cons.mp hx with rfl | hx; exact ⟨h0, hs⟩; exact hl x hx)
theorem eqv_run {d : Det} : ∀ (l : List Int) {i k : Nat}, Eqv d i k → Vl d l → Eqv d (runT d i l) (runT d k l)
  | [], i, k, h, _ => h
  | s :: l, i, k, h, hl => eqv_run l (eqv_step h (hl s (by simp)).1 (hl s (by simp)).2) (fun x hx => hl x (by simp [hx]))
theorem Eqv.refl (d : Det) (i : Nat) : Eqv d i i := fun _ _ => rfl
theorem Eqv.symm {d : Det} {i k : Nat} (h : Eqv d i k) : Eqv d k i := fun l hl => (h l hl).symm
theorem Eqv.trans {d : Det} {i k m : Nat} (h : Eqv d i k) (h2 : Eqv d k m) : Eqv d i m := fun l hl => (h l hl).trans (h2 l hl)
/-- Nothing more is told apart: all is. -/
theorem eqv_stable {d : Det} (R : RightD d) {j : Nat} (h : ∀ i k, i < d.next.length → k < d.next.length → EqvN d j i k → EqvN d (j + 1) i k) {i k : Nat} (hi : i < d.next.length) (hk : k < d.next.length) (he : EqvN d j i k) : Eqv d i k := by
  have key : ∀ (l : List Int) (i k : Nat), i < d.next.length → k < d.next.length → EqvN d j i k → Vl d l → finB d (runT d i l) = finB d (runT d k l) := by
    intro l
    induction l with
    | nil => intro i k hi hk he _; exact he [] (fun s hs => by simp at hs) (by simp)
    | cons s l ih =>
      intro i k hi hk he hl
      have hs := hl s (by simp)
      exact ih _ _ (step_lt R hi hs.1 hs.2) (step_lt R hk hs.1 hs.2) ((eqvN_succ.mp (h i k hi hk he)).2 s hs.1 hs.2) (fun x hx => hl x (by simp [hx]))
  exact fun l hl => key l i k hi hk he hl
/-! ### classes, made finer -/
def coarse (d : Det) : List Int := d.fin.map fun b => if b = true then 1 else 0
def viewK (d : Det) (c : List Int) (s : Nat) : List Int := c.getD s 0 :: (d.next.getD s []).map fun t => c.getD t.toNat 0
def viewsL (d : Det) (c : List Int) : List (List Int) := (List.range d.next.length).map (viewK d c)
def finerF (d : Det) (c : List Int) : List (List Int) × List Int := numF1 (viewsL d c)
def clsGo (d : Det) : Nat → List Int → Nat → List Int
  | 0, c, _ => c
  | f + 1, c, n => if (finerF d c).1.length = n then (finerF d c).2 else clsGo d f (finerF d c).2 (finerF d c).1.length
def classesD (d : Det) : List Int := clsGo d (d.next.length + 1) (coarse d) 0
/-- c tells just those apart that are told apart by lists of up to j signs. -/
structure ClsN (d : Det) (j : Nat) (c : List Int) : Prop where
  len : c.length = d.next.length
  eq : ∀ i k, i < d.next.length → k < d.next.length → (c.getD i 0 = c.getD k 0 ↔ EqvN d j i k)
theorem cls_coarse {d : Det} (R : RightD d) : ClsN d 0 (coarse d) := by
  have hf := R.fin
  refine ⟨by simp [coarse, hf], fun i k hi hk => ?_⟩
  have h1 : i < d.fin.length := by omega
  have h2 : k < d.fin.length := by omega
  have e : ∀ l, Vl d l → l.length ≤ 0 → l = [] := fun l _ hl => List.eq_nil_of_length_eq_zero (by omega)
  simp only [coarse, List.getD_eq_getElem?_getD, List.getElem?_map, List.getElem?_eq_getElem h1, List.getElem?_eq_getElem h2, Option.map_some, Option.getD_some]
  constructor
  · intro h l hl hlen
    rw [e l hl hlen]
    simp only [runT, List.foldl_nil, finB, List.getD_eq_getElem?_getD, List.getElem?_eq_getElem h1, List.getElem?_eq_getElem h2, Option.getD_some]
    revert h
    cases d.fin[i] <;> cases d.fin[k] <;> simp
  · intro h
    have := h [] (fun s hs => by simp at hs) (by simp)
    simp only [runT, List.foldl_nil, finB, List.getD_eq_getElem?_getD, List.getElem?_eq_getElem h1, List.getElem?_eq_getElem h2, Option.getD_some] at this
    rw [this]
theorem viewK_eq {d : Det} (R : RightD d) {j : Nat} {c : List Int} (h : ClsN d j c) {i k : Nat} (hi : i < d.next.length) (hk : k < d.next.length) : viewK d c i = viewK d c k ↔ EqvN d (j + 1) i k := by
  have ri := R.row i hi
  have rk := R.row k hk
  have hs0 := R.s1
  rw [eqvN_succ]
  simp only [viewK, List.cons.injEq]
  rw [h.eq i k hi hk]
  refine and_congr_right fun _ => ?_
  simp only [List.getD_eq_getElem?_getD, List.getElem?_eq_getElem hi, List.getElem?_eq_getElem hk, Option.getD_some]
  have st : ∀ (a : Nat) (ha : a < d.next.length) (s : Nat) (hs : s < (d.next[a]).length), ((d.next[a])[s]).toNat = stepD d a s := fun a ha s hs => by
    simp [stepD, List.getD_eq_getElem?_getD, List.getElem?_eq_getElem ha, List.getElem?_eq_getElem hs]
  constructor
  · intro he s h0 hs
    have h1 : s.toNat < (d.next[i]).length := by omega
    have h2 : s.toNat < (d.next[k]).length := by omega
    have := congrArg (fun l => l[s.toNat]?) he
    simp only [List.getElem?_map, List.getElem?_eq_getElem h1, List.getElem?_eq_getElem h2, Option.map_some, Option.some.injEq] at this
    rw [st i hi _ h1, st k hk _ h2] at this
    have e : ((s.toNat : Nat) : Int) = s := by omega
    rw [e] at this
    exact (h.eq _ _ (step_lt R hi h0 hs) (step_lt R hk h0 hs)).mp (by simpa [List.getD_eq_getElem?_getD] using this)
  · intro he
    refine List.ext_getElem (by simp; omega) (fun s h1 h2 => ?_)
    simp only [List.length_map] at h1 h2
    simp only [List.getElem_map]
    rw [st i hi s h1, st k hk s h2]
    have hs : ((s : Nat) : Int) < d.signs := by omega
    have := (h.eq _ _ (step_lt R hi (by omega) hs) (step_lt R hk (by omega) hs)).mpr (he s (by omega) hs)
    simpa [List.getD_eq_getElem?_getD] using this
theorem viewsL_len (d : Det) (c : List Int) : (viewsL d c).length = d.next.length := by simp [viewsL]
theorem cls_finer {d : Det} (R : RightD d) {j : Nat} {c : List Int} (h : ClsN d j c) : ClsN d (j + 1) (finerF d c).2 := by
  have o := numF1_ok (viewsL d c)
  have hl := viewsL_len d c
  refine ⟨by rw [← hl]; exact o.len, fun i k hi hk => ?_⟩
  have e := num_eq (l := viewsL d c) (i := i) (j := k) (by omega) (by omega)
  have hi2 : i < (numF1 (viewsL d c)).2.length := by rw [o.len]; omega
  have hk2 : k < (numF1 (viewsL d c)).2.length := by rw [o.len]; omega
  simp only [viewsL, List.getElem_map, List.getElem_range] at e
  rw [← viewK_eq R h hi hk, ← e]
  simp only [finerF, viewsL, List.getD_eq_getElem?_getD]
  have hi3 : i < (numF1 (List.map (viewK d c) (List.range d.next.length))).2.length := hi2
  have hk3 : k < (numF1 (List.map (viewK d c) (List.range d.next.length))).2.length := hk2
  rw [List.getElem?_eq_getElem hi3, List.getElem?_eq_getElem hk3]
  simp
/-- The classes of states, numbered as they are met. -/
structure ClsD (d : Det) (c : List Int) : Prop where
  len : c.length = d.next.length
  eq : ∀ i k, i < d.next.length → k < d.next.length → (c.getD i 0 = c.getD k 0 ↔ Eqv d i k)
  num : (numF1 c).2 = c
/-- Made finer once more they are as many, or more; as many: the same. -/
theorem finer_le {d : Det} (R : RightD d) {j : Nat} {c : List Int} (h : ClsN d j c) : (finerF d c).1.length ≤ (finerF d (finerF d c).2).1.length ∧ (finerF d c).1.length ≤ d.next.length ∧ 1 ≤ (finerF d c).1.length ∧
    ((finerF d (finerF d c).2).1.length = (finerF d c).1.length → ClsD d (finerF d (finerF d c).2).2) := by
  have h1 := cls_finer R h
  have h2 := cls_finer R h1
  have hn := R.n1
  obtain ⟨a, b⟩ := num_refine (l := viewsL d (finerF d c).2) (m := viewsL d c) (by simp [viewsL]) (fun i k hi hk => by
    rw [viewsL_len] at hi hk
    simp only [viewsL, List.getElem_map, List.getElem_range]
    intro he
    rw [viewK_eq R h1 hi hk] at he
    rw [viewK_eq R h hi hk]
    exact (eqvN_succ.mp he).1)
  have hpos : 1 ≤ (finerF d c).1.length := by
    have o := numF1_ok (viewsL d c)
    have : (viewsL d c)[0]'(by simp [viewsL]; omega) ∈ (numF1 (viewsL d c)).1 := (o.mem _).mpr (List.getElem_mem _)
    exact List.length_pos_of_mem this
  refine ⟨a, by have := num_le (viewsL d c); rw [viewsL_len] at this; exact this, hpos, fun hc => ?_⟩
  have b2 := b hc.symm
  have stab : ∀ i k, i < d.next.length → k < d.next.length → EqvN d (j + 1) i k → EqvN d (j + 2) i k := by
    intro i k hi hk he
    rw [← viewK_eq R h hi hk] at he
    rw [← viewK_eq R h1 hi hk]
    have := b2 i k (by rw [viewsL_len]; exact hi) (by rw [viewsL_len]; exact hk)
    simp only [viewsL, List.getElem_map, List.getElem_range] at this
    exact this he
  refine ⟨h2.len, fun i k hi hk => ?_, num_idem _⟩
  rw [h2.eq i k hi hk]
  constructor
  · intro he
    exact eqv_stable R stab hi hk (eqvN_succ.mp he).1
  · intro he l hl _; exact he l hl
theorem clsGo_ok {d : Det} (R : RightD d) : ∀ (f j : Nat) (c : List Int), ClsN d j c → d.next.length < f + (finerF d c).1.length → ClsD d (clsGo d f (finerF d c).2 (finerF d c).1.length)
  | 0, j, c, h, hf => by have := (finer_le R h).2.1; omega
  | f + 1, j, c, h, hf => by
    obtain ⟨a1, a2, a3, a4⟩ := finer_le R h
    rw [clsGo]
    split
    · rename_i he; exact a4 he
    · rename_i he
      exact clsGo_ok R f (j + 1) _ (cls_finer R h) (by omega)
theorem classesD_ok {d : Det} (R : RightD d) : ClsD d (classesD d) := by
  have h0 := cls_coarse R
  have hn := (finer_le R h0).2.2.1
  rw [classesD, clsGo, if_neg (by omega)]
  exact clsGo_ok R _ 0 _ h0 (by omega)
end Go.Rf

