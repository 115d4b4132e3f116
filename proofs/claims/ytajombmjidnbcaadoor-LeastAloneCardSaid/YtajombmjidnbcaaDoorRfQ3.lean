import Derived.Test.YtajombmjidnbcaaDoorRfQ2
/- Own work: the least automaton (plain laws). -/
set_option linter.unusedVariables false
namespace Go.Rf

theorem nodup_le : ∀ (n : Nat) (l : List Nat), l.Nodup → (∀ x ∈ l, x < n) → l.length ≤ n
  | 0, l, _, h => by
    cases l with
    | nil => simp
    | cons x l => have := h x (by simp); omega
  | n + 1, l, hd, h => by
    by_cases hn : n ∈ l
    · have h1 := List.length_erase_of_mem hn
      have h2 := nodup_le n (l.erase n) (hd.erase n) (fun x hx => by
        have := (hd.mem_erase_iff).mp hx
        have := h x this.2
        omega)
      have := List.length_pos_of_mem hn
      omega
    · have := nodup_le n l hd (fun x hx => by
        have := h x hx
        have : x ≠ n := fun e => hn (e ▸ hx)
        omega)
      omega
def clsN (c : List Int) (q : Nat) : Int := c.getD q 0
def lnum (c : List Int) (one : List Nat) (to : Nat) : List Nat × Nat :=
  if clsN c to ∈ one.map (clsN c) then (one, (one.map (clsN c)).idxOf (clsN c to)) else (one ++ [to], one.length)
def lrow (c : List Int) (t : Nat → Nat) : Nat → List Nat → List Nat × List Int
  | 0, one => (one, [])
  | k + 1, one => ((lnum c (lrow c t k one).1 (t k)).1, (lrow c t k one).2 ++ [((lnum c (lrow c t k one).1 (t k)).2 : Int)])
abbrev LSt := List Nat × List (List Int) × List Bool
def lnx (d : Det) (c : List Int) (i : Nat) (st : LSt) : LSt := match st.1[i]? with
  | none => st
  | some q => ((lrow c (fun s => stepD d q s) d.signs.toNat st.1).1, st.2.1 ++ [(lrow c (fun s => stepD d q s) d.signs.toNat st.1).2], st.2.2 ++ [finB d q])
def lsF (d : Det) (c : List Int) : Nat → LSt
  | 0 => ([0], [], [])
  | i + 1 => lnx d c i (lsF d c i)
def lgo (d : Det) (c : List Int) : Nat → Nat → LSt → LSt
  | 0, _, st => st
  | f + 1, i, st => if i = st.1.length then st else lgo d c f (i + 1) (lnx d c i st)
def leastS (d : Det) : LSt := lgo d (classesD d) (d.next.length + 1) 0 ([0], [], [])
def leastD (d : Det) : Det := ⟨d.signs, (leastS d).2.1, (leastS d).2.2⟩
theorem lnum_spec (c : List Int) (one : List Nat) (to : Nat) (hd : (one.map (clsN c)).Nodup) :
    ((lnum c one to).1 = one ∧ (lnum c one to).2 < one.length ∧ (∃ q, one[(lnum c one to).2]? = some q ∧ clsN c q = clsN c to)) ∨ ((lnum c one to).1 = one ++ [to] ∧ (lnum c one to).2 = one.length ∧ clsN c to ∉ one.map (clsN c)) := by
  unfold lnum
  split
  · rename_i h
    left
    have hlt := List.idxOf_lt_length_of_mem h
    have hlt2 := hlt
    rw [List.length_map] at hlt2
    refine ⟨rfl, hlt2, one[(one.map (clsN c)).idxOf (clsN c to)], List.getElem?_eq_getElem hlt2, ?_⟩
    have := List.getElem_idxOf hlt
    rw [List.getElem_map] at this
    exact this
  · rename_i h
    exact .inr ⟨rfl, rfl, h⟩
theorem lnum_nd {c : List Int} {one : List Nat} (to : Nat) (hd : (one.map (clsN c)).Nodup) : ((lnum c one to).1.map (clsN c)).Nodup := by
  rcases lnum_spec c one to hd with ⟨h1, _, _⟩ | ⟨h1, _, h3⟩
  · rw [h1]; exact hd
  · rw [h1, List.map_append, List.nodup_append]
    exact ⟨hd, by simp, fun a ha b hb => by simp at hb; subst hb; rintro rfl; exact h3 ha⟩
/-- What the making keeps. -/
structure LrOk (c : List Int) (t : Nat → Nat) (k : Nat) (one one' : List Nat) (r : List Int) : Prop where
  pre : ∀ j q : Nat, one[j]? = some q → one'[j]? = some q
  nd : (one'.map (clsN c)).Nodup
  len : r.length = k
  at_ : ∀ s, s < k → ∃ j : Nat, r[s]? = some (j : Int) ∧ ∃ q, one'[j]? = some q ∧ clsN c q = clsN c (t s)
  new : ∀ q ∈ one', q ∈ one ∨ ∃ s < k, q = t s
  le : one.length ≤ one'.length
  bor : ∀ j, one.length ≤ j → j < one'.length → ∃ s < k, r[s]? = some (j : Int)
theorem lrow_ok {c : List Int} {t : Nat → Nat} {one : List Nat} (hd : (one.map (clsN c)).Nodup) : ∀ k, LrOk c t k one (lrow c t k one).1 (lrow c t k one).2
  | 0 => ⟨fun _ _ h => h, hd, rfl, fun s hs => by omega, fun q h => .inl h, Nat.le_refl _, fun j h1 h2 => by simp only [lrow] at h2; omega⟩
  | k + 1 => by
    have ih := lrow_ok (t := t) hd k
    have hn := lnum_nd (t k) ih.nd
    simp only [lrow]
    generalize lrow c t k one = p at ih hn
    obtain ⟨o1, r1⟩ := p
    simp only at ih hn ⊢
    rcases lnum_spec c o1 (t k) ih.nd with ⟨h1, h2, q, h3, h4⟩ | ⟨h1, h2, h3⟩
    · rw [h1] at hn ⊢
      refine ⟨ih.pre, hn, by simp [ih.len], fun s hs => ?_, fun q hq => ?_, ih.le, fun j h5 h6 => ?_⟩
      · by_cases hsk : s = k
        · subst hsk
          refine ⟨(lnum c o1 (t s)).2, ?_, q, h3, h4⟩
          rw [List.getElem?_append_right (by rw [ih.len]; omega), ih.len]; simp
        · obtain ⟨j, a1, a2⟩ := ih.at_ s (by omega)
          refine ⟨j, ?_, a2⟩
          rw [List.getElem?_append_left (by rw [ih.len]; omega)]; exact a1
      · rcases ih.new q hq with h | ⟨s, hs, h⟩
        · exact .inl h
        · exact .inr ⟨s, by omega, h⟩
      · obtain ⟨s, hs, h7⟩ := ih.bor j h5 h6
        exact ⟨s, by omega, by rw [List.getElem?_append_left (by rw [ih.len]; omega)]; exact h7⟩
    · rw [h1] at hn ⊢
      rw [h2]
      refine ⟨fun j q hq => ?_, hn, by simp [ih.len], fun s hs => ?_, fun q hq => ?_, ?_, fun j h5 h6 => ?_⟩
      · have := ih.pre j q hq
        rw [List.getElem?_append_left (List.getElem?_eq_some_iff.mp this).1]; exact this
      · by_cases hsk : s = k
        · subst hsk
          refine ⟨o1.length, ?_, t s, by simp, rfl⟩
          rw [List.getElem?_append_right (by rw [ih.len]; omega), ih.len]; simp
        · obtain ⟨j, a1, q, a2, a3⟩ := ih.at_ s (by omega)
          refine ⟨j, ?_, q, ?_, a3⟩
          · rw [List.getElem?_append_left (by rw [ih.len]; omega)]; exact a1
          · rw [List.getElem?_append_left (List.getElem?_eq_some_iff.mp a2).1]; exact a2
      · rcases List.mem_append.mp hq with hq | hq
        · rcases ih.new q hq with h | ⟨s, hs, h⟩
          · exact .inl h
          · exact .inr ⟨s, by omega, h⟩
        · simp at hq; exact .inr ⟨k, by omega, hq⟩
      · have := ih.le; simp; omega
      · simp only [List.length_append, List.length_cons, List.length_nil] at h6
        by_cases hj : j < o1.length
        · obtain ⟨s, hs, h7⟩ := ih.bor j h5 hj
          exact ⟨s, by omega, by rw [List.getElem?_append_left (by rw [ih.len]; omega)]; exact h7⟩
        · have : j = o1.length := by omega
          subst this
          exact ⟨k, by omega, by rw [List.getElem?_append_right (by rw [ih.len]; omega), ih.len]; simp⟩
structure LOk (d : Det) (c : List Int) (i : Nat) (st : LSt) : Prop where
  zero : st.1[0]? = some 0
  nd : (st.1.map (clsN c)).Nodup
  lt : ∀ q ∈ st.1, q < d.next.length
  le : i ≤ st.1.length
  nx : st.2.1.length = i
  en : st.2.2.length = i
  row : ∀ k, k < i → ∃ q r, st.1[k]? = some q ∧ st.2.2[k]? = some (finB d q) ∧ st.2.1[k]? = some r ∧ r.length = d.signs.toNat ∧
    ∀ s, s < d.signs.toNat → ∃ j : Nat, r[s]? = some (j : Int) ∧ ∃ q', st.1[j]? = some q' ∧ clsN c q' = clsN c (stepD d q s)
  bor : ∀ j, 1 ≤ j → j < st.1.length → ∃ k < i, k < j ∧ ∃ r s, st.2.1[k]? = some r ∧ s < d.signs.toNat ∧ r[s]? = some (j : Int)
theorem LOk.len {d : Det} {c : List Int} {i : Nat} {st : LSt} (h : LOk d c i st) : st.1.length ≤ d.next.length := by
  refine nodup_le _ _ ?_ h.lt
  have := h.nd
  exact (List.pairwise_map.mp this).imp (fun h e => h (congrArg _ e))
theorem lst_ok {d : Det} (R : RightD d) (c : List Int) : ∀ i, (∀ m, m < i → m < (lsF d c m).1.length) → LOk d c i (lsF d c i)
  | 0, _ => by
    have hn := R.n1
    exact ⟨rfl, by simp [lsF], fun q hq => by simp [lsF] at hq; omega, by simp, rfl, rfl, fun k hk => by omega, fun j h1 h2 => by simp [lsF] at h2; omega⟩
  | i + 1, hm => by
    have ih := lst_ok R c i (fun m h => hm m (by omega))
    have hi := hm i (by omega)
    have hs1 := R.s1
    simp only [lsF, lnx]
    rw [List.getElem?_eq_getElem hi]
    simp only
    generalize hst : lsF d c i = st at ih hi
    obtain ⟨one, nx, en⟩ := st
    simp only at ih hi ⊢
    have ro := lrow_ok (c := c) (t := fun s => stepD d one[i] s) (one := one) ih.nd d.signs.toNat
    generalize lrow c (fun s => stepD d one[i] s) d.signs.toNat one = p at ro
    obtain ⟨one', r⟩ := p
    simp only at ro ⊢
    have hqi : one[i] < d.next.length := ih.lt _ (List.getElem_mem hi)
    have hen := ih.en
    have hnx := ih.nx
    simp only at hen hnx
    refine ⟨ro.pre _ _ ih.zero, ro.nd, fun q hq => ?_, by have := ro.le; simp only; omega, by simp [hnx], by simp [hen], fun k hk => ?_, fun j h1 h2 => ?_⟩
    · rcases ro.new q hq with h | ⟨s, hs, rfl⟩
      · exact ih.lt q h
      · exact step_lt R hqi (by omega) (by omega)
    · simp only
      by_cases hki : k = i
      · subst hki
        refine ⟨one[k], r, ro.pre _ _ (List.getElem?_eq_getElem hi), ?_, ?_, ro.len, fun s hs => ro.at_ s hs⟩
        · rw [List.getElem?_append_right (by omega)]; simp [hen]
        · rw [List.getElem?_append_right (by omega)]; simp [hnx]
      · obtain ⟨q, r', b1, b2, b3, b4, b5⟩ := ih.row k (by omega)
        refine ⟨q, r', ro.pre _ _ b1, ?_, ?_, b4, fun s hs => ?_⟩
        · rw [List.getElem?_append_left (List.getElem?_eq_some_iff.mp b2).1]; exact b2
        · rw [List.getElem?_append_left (List.getElem?_eq_some_iff.mp b3).1]; exact b3
        · obtain ⟨j, c1, q', c2, c3⟩ := b5 s hs
          exact ⟨j, c1, q', ro.pre _ _ c2, c3⟩
    · simp only at h2 ⊢
      by_cases hj : j < one.length
      · obtain ⟨k, hk, hkj, r', s, b1, b2, b3⟩ := ih.bor j h1 hj
        refine ⟨k, by omega, hkj, r', s, ?_, b2, b3⟩
        rw [List.getElem?_append_left (List.getElem?_eq_some_iff.mp b1).1]; exact b1
      · obtain ⟨s, hs, h7⟩ := ro.bor j (by omega) h2
        refine ⟨i, by omega, by omega, r, s, ?_, hs, h7⟩
        rw [List.getElem?_append_right (by omega)]; simp [hnx]
/-- It ends: with as many rows as states. -/
theorem lgo_end {d : Det} (R : RightD d) (c : List Int) : ∀ (f i : Nat), (∀ m, m < i → m < (lsF d c m).1.length) → d.next.length < f + i → ∃ k, lgo d c f i (lsF d c i) = lsF d c k ∧ k = (lsF d c k).1.length ∧ ∀ m, m < k → m < (lsF d c m).1.length
  | 0, i, hm, hf => by
    have o := lst_ok R c i hm
    have := o.len; have := o.le
    omega
  | f + 1, i, hm, hf => by
    have o := lst_ok R c i hm
    rw [lgo]
    split
    · rename_i he; exact ⟨i, rfl, he, hm⟩
    · rename_i he
      have := o.le
      exact lgo_end R c f (i + 1) (fun m h => by
        by_cases hmi : m = i
        · subst hmi; omega
        · exact hm m (by omega)) (by omega)
theorem leastS_spec {d : Det} (R : RightD d) : ∃ k, leastS d = lsF d (classesD d) k ∧ k = (leastS d).1.length ∧ (∀ m, m < k → m < (lsF d (classesD d) m).1.length) ∧ LOk d (classesD d) k (leastS d) := by
  obtain ⟨k, h1, h2, h3⟩ := lgo_end R (classesD d) (d.next.length + 1) 0 (fun m h => by omega) (by omega)
  have e : leastS d = lsF d (classesD d) k := h1
  exact ⟨k, e, by rw [e]; exact h2, h3, by rw [e]; exact lst_ok R _ k h3⟩
/-- The least one is an automaton; it ends as the other one does. -/
theorem leastD_ok {d : Det} (R : RightD d) : RightD (leastD d) ∧ (leastD d).next.length = (leastS d).1.length ∧
    ∀ (l : List Int) (a q : Nat), (leastS d).1[a]? = some q → Vl d l → ∃ q', (leastS d).1[runT (leastD d) a l]? = some q' ∧ Eqv d q' (runT d q l) ∧ finB (leastD d) (runT (leastD d) a l) = finB d (runT d q l) := by
  obtain ⟨k, h1, h2, h3, o⟩ := leastS_spec R
  have C := classesD_ok R
  have hle := o.len
  have h0 := (List.getElem?_eq_some_iff.mp o.zero).1
  have hs1 := R.s1
  have hn2 := R.n2
  have hnx := o.nx
  have hen := o.en
  have D : RightD (leastD d) := by
    refine ⟨R.s1, R.s2, by show 1 ≤ (leastS d).2.1.length; omega, by show (leastS d).2.1.length ≤ 3000; omega, by show (leastS d).2.2.length = (leastS d).2.1.length; omega, fun i hi => ?_, fun i hi j hj => ?_⟩
    · have hi' : i < (leastS d).2.1.length := hi
      obtain ⟨q, r, b1, b2, b3, b4, b5⟩ := o.row i (by omega)
      obtain ⟨_, e⟩ := List.getElem?_eq_some_iff.mp b3
      show (((leastS d).2.1[i]'hi').length : Int) = d.signs
      rw [e, b4]
      omega
    · have hi' : i < (leastS d).2.1.length := hi
      obtain ⟨q, r, b1, b2, b3, b4, b5⟩ := o.row i (by omega)
      obtain ⟨_, e⟩ := List.getElem?_eq_some_iff.mp b3
      subst e
      have hj' : j < ((leastS d).2.1[i]'hi').length := hj
      obtain ⟨t, c1, q', c2, c3⟩ := b5 j (by omega)
      obtain ⟨_, c4⟩ := List.getElem?_eq_some_iff.mp c1
      have ht := (List.getElem?_eq_some_iff.mp c2).1
      show 0 ≤ ((leastS d).2.1[i]'hi')[j]'hj' ∧ ((leastS d).2.1[i]'hi')[j]'hj' < ((leastS d).2.1.length : Int)
      rw [c4]
      omega
  refine ⟨D, by show (leastS d).2.1.length = _; omega, ?_⟩
  have clsEq : ∀ p q, p < d.next.length → q < d.next.length → clsN (classesD d) p = clsN (classesD d) q → Eqv d p q := fun p q hp hq h => (C.eq p q hp hq).mp h
  have fin : ∀ a q, (leastS d).1[a]? = some q → finB (leastD d) a = finB d q := by
    intro a q ha
    have hal := (List.getElem?_eq_some_iff.mp ha).1
    obtain ⟨q', r, b1, b2, b3, b4, b5⟩ := o.row a (by omega)
    rw [ha] at b1; cases b1
    show (leastS d).2.2.getD a false = _
    rw [List.getD_eq_getElem?_getD, b2]; rfl
  intro l
  induction l with
  | nil =>
    intro a q ha _
    exact ⟨q, ha, Eqv.refl _ _, fin a q ha⟩
  | cons s l ih =>
    intro a q ha hl
    have hs := hl s (by simp)
    have hal := (List.getElem?_eq_some_iff.mp ha).1
    have hq := o.lt q (List.mem_of_getElem? ha)
    obtain ⟨q', r, b1, b2, b3, b4, b5⟩ := o.row a (by omega)
    rw [ha] at b1; cases b1
    obtain ⟨j, c1, p, c2, c3⟩ := b5 s.toNat (by omega)
    have e : ((s.toNat : Nat) : Int) = s := by omega
    rw [e] at c3
    have hp := o.lt p (List.mem_of_getElem? c2)
    have hst : stepD (leastD d) a s = j := by
      show (((leastS d).2.1.getD a []).getD s.toNat 0).toNat = j
      simp only [List.getD_eq_getElem?_getD, b3, Option.getD_some, c1, Int.toNat_natCast]
    have hpe : Eqv d p (stepD d q s) := clsEq p _ hp (step_lt R hq hs.1 hs.2) c3
    have hl' : Vl d l := fun x hx => hl x (by simp [hx])
    obtain ⟨q2, d1, d2, d3⟩ := ih j p c2 hl'
    refine ⟨q2, ?_, d2.trans (eqv_run l hpe hl'), ?_⟩
    · show (leastS d).1[runT (leastD d) (stepD (leastD d) a s) l]? = some q2
      rw [hst]; exact d1
    · show finB (leastD d) (runT (leastD d) (stepD (leastD d) a s) l) = finB d (runT d (stepD d q s) l)
      rw [hst, d3]
      exact hpe l hl'
end Go.Rf

