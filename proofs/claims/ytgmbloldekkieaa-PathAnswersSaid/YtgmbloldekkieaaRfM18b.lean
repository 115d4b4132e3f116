import Derived.Test.YtgmbloldekkieaaRfL6
import Derived.Lib.SlicesCompact
import Derived.Lib.RowBridge
/- Own work: the first marked list, over the graph of pairs of a state and a phase: the plain law. -/
set_option linter.unusedVariables false
set_option linter.unusedSimpArgs false
namespace Go.Rf

/-! ### lists without neighbours that are alike -/
theorem mem_compact {zs : List Int} {x : Int} : x ∈ Lib.compact zs ↔ x ∈ zs := by
  have hget : ∀ j (hj : j < zs.length), zs.toArray[j]! = zs[j] := fun j hj => by simp [hj]
  simp only [Lib.compact, Lib.compactUpTo, List.mem_map, List.mem_filter, List.mem_range]
  constructor
  · rintro ⟨j, ⟨hj, _⟩, rfl⟩
    rw [hget j hj]; exact List.getElem_mem hj
  · intro hx
    obtain ⟨j, hj, rfl⟩ := List.mem_iff_getElem.mp hx
    have key : ∀ m, ∀ j (hj : j < zs.length), j ≤ m → ∃ a, (a < zs.length ∧ Lib.keeps zs.toArray a = true) ∧ zs.toArray[a]! = zs[j] := by
      intro m
      induction m with
      | zero =>
        intro j hj h0
        have : j = 0 := by omega
        subst this
        exact ⟨0, ⟨hj, by simp [Lib.keeps]⟩, hget 0 hj⟩
      | succ m ih =>
        intro j hj hm
        by_cases hk : Lib.keeps zs.toArray j = true
        · exact ⟨j, ⟨hj, hk⟩, hget j hj⟩
        · have hk' : ¬ (j = 0 ∨ zs.toArray[j]! ≠ zs.toArray[j - 1]!) := by simpa [Lib.keeps] using hk
          have h0 : j ≠ 0 := fun e => hk' (.inl e)
          have he : zs.toArray[j]! = zs.toArray[j - 1]! := Decidable.byContradiction fun e => hk' (.inr e)
          obtain ⟨a, ha, hb⟩ := ih (j - 1) (by omega) (by omega)
          refine ⟨a, ha, ?_⟩
          rw [hb, ← hget (j - 1) (by omega), ← he, hget j hj]
    obtain ⟨a, h1, h2⟩ := key j j hj (Nat.le_refl _)
    exact ⟨a, h1, h2⟩

/-! ### the graph -/
def pstep (ph sign : Nat) (to : Int) : Int := if sign % 2 = 0 then (if ph = 0 then to * 3 + 1 else to * 3 + ph) else if ph = 1 then to * 3 + 2 else -1
def prow (ph : Nat) (l : List Int) : List Int := l.mapIdx fun i t => pstep ph i t
def pgRow (d : Det) (i : Nat) : List Int := prow (i % 3) (d.next.getD (i / 3) [])
def pgEnd (d : Det) (i : Nat) : Bool := decide (i % 3 = 2) && d.fin.getD (i / 3) false
def pg (d : Det) : Gr := ⟨(List.range (3 * d.next.length)).map (pgRow d), (List.range (3 * d.next.length)).map (pgEnd d)⟩
theorem pg_n (d : Det) : (pg d).n = 3 * d.next.length := by simp [pg, Gr.n]
theorem pg_row {d : Det} {i : Nat} (h : i < 3 * d.next.length) : (pg d).next[i]? = some (pgRow d i) := by simp [pg, h]
theorem pg_end {d : Det} {i : Nat} (h : i < 3 * d.next.length) : (pg d).isEnd i = pgEnd d i := by simp [pg, Gr.isEnd, List.getD_eq_getElem?_getD, h]
theorem pgRow_at {d : Det} (R : RightD d) {s ph : Nat} (hs : s < d.next.length) (hp : ph < 3) (a : Nat) : (pgRow d (3 * s + ph))[a]? = if (a : Int) < d.signs then some (pstep ph a (stepD d s a)) else none := by
  have e1 : (3 * s + ph) % 3 = ph := by omega
  have e2 : (3 * s + ph) / 3 = s := by omega
  have hrow := R.row s hs
  have hg : d.next.getD s [] = d.next[s] := by simp [List.getD_eq_getElem?_getD, List.getElem?_eq_getElem hs]
  simp only [pgRow, e1, e2, prow, hg, List.getElem?_mapIdx]
  by_cases ha : (a : Int) < d.signs
  · obtain ⟨q1, q2, q3⟩ := step_at R hs (s := (a : Int)) (by omega) ha
    simp only [Int.toNat_natCast] at q1 q2
    rw [if_pos ha, List.getElem?_eq_getElem q1, q2]; rfl
  · rw [if_neg ha, List.getElem?_eq_none (by omega)]; rfl
theorem pgOk {d : Det} (R : RightD d) : GrOk (pg d) := by
  have hn2 := R.n2
  have hs2 := R.s2
  refine ⟨by simp [pg], by simp [pg]; omega, fun r hr => ?_, fun r hr t ht => ?_⟩
  · simp only [pg, List.mem_map, List.mem_range] at hr
    obtain ⟨i, hi, rfl⟩ := hr
    have hs : i / 3 < d.next.length := by omega
    have := R.row (i / 3) hs
    simp only [pgRow, prow, List.length_mapIdx, List.getD_eq_getElem?_getD, List.getElem?_eq_getElem hs, Option.getD_some]
    omega
  · simp only [pg, List.mem_map, List.mem_range] at hr
    obtain ⟨i, hi, rfl⟩ := hr
    obtain ⟨a, ha, rfl⟩ := List.mem_iff_getElem.mp ht
    have hs : i / 3 < d.next.length := by omega
    have e : i = 3 * (i / 3) + i % 3 := by omega
    have h1 := pgRow_at R hs (ph := i % 3) (by omega) a
    rw [← e, List.getElem?_eq_getElem ha] at h1
    split at h1
    · rename_i hsg
      obtain ⟨q1, q2, q3⟩ := step_at R hs (s := (a : Int)) (by omega) hsg
      rw [Option.some.inj h1]
      have hl : (pg d).next.length = 3 * d.next.length := by simp [pg]
      rw [hl]
      unfold pstep
      split
      · split <;> right <;> omega
      · split
        · right; omega
        · left; rfl
    · cases h1

/-! ### paths by halves of signs -/
def stepH (d : Det) (i : Nat) (h : Int) (j : Nat) : Prop := ∃ a : Nat, ((a / 2 : Nat) : Int) = h ∧ (pgRow d i)[a]? = some (j : Int)
def pathH (d : Det) : Nat → List Int → Nat → Prop
  | i, [], t => i = t
  | i, h :: hs, t => ∃ j, stepH d i h j ∧ pathH d j hs t
def accP (d : Det) (i : Nat) (hs : List Int) : Prop := ∃ t, pathH d i hs t ∧ pgEnd d t = true
def accF (d : Det) (s : Nat) (l : List Int) : Prop := ∃ e, runFrom d s l = some e ∧ d.fin.getD e false = true
theorem accP_nil {d : Det} {i : Nat} : accP d i [] ↔ pgEnd d i = true := by simp [accP, pathH]
theorem accP_cons {d : Det} {i : Nat} {h : Int} {hs : List Int} : accP d i (h :: hs) ↔ ∃ j, stepH d i h j ∧ accP d j hs := by
  simp only [accP, pathH]
  constructor
  · rintro ⟨t, ⟨j, h1, h2⟩, h3⟩; exact ⟨j, h1, t, h2, h3⟩
  · rintro ⟨j, h1, t, h2, h3⟩; exact ⟨t, ⟨j, h1, h2⟩, h3⟩
theorem accF_nil {d : Det} {s : Nat} : accF d s [] ↔ d.fin.getD s false = true := by simp [accF, runFrom]
theorem accF_cons {d : Det} {s : Nat} {x : Int} {l : List Int} : accF d s (x :: l) ↔ (0 ≤ x ∧ x < d.signs) ∧ accF d (stepD d s x) l := by
  simp only [accF, runFrom]
  constructor
  · rintro ⟨e, h1, h2⟩
    split at h1
    · rename_i hx; exact ⟨hx, e, h1, h2⟩
    · cases h1
  · rintro ⟨hx, e, h1, h2⟩
    exact ⟨e, by rw [if_pos hx]; exact h1, h2⟩
theorem stepD_lt {d : Det} (R : RightD d) {s : Nat} (hs : s < d.next.length) {x : Int} (h0 : 0 ≤ x) (h1 : x < d.signs) : stepD d s x < d.next.length := (step_at R hs h0 h1).2.2
theorem stepH_lt {d : Det} (R : RightD d) {i j : Nat} {h : Int} (hi : i < 3 * d.next.length) (hh : stepH d i h j) : j < 3 * d.next.length ∧ (pg d).edge i j ∧ 0 ≤ h := by
  obtain ⟨a, ha, hg⟩ := hh
  refine ⟨?_, ⟨pgRow d i, pg_row hi, List.mem_of_getElem? hg⟩, by omega⟩
  rcases (pgOk R).at_ (pgRow d i) (List.mem_of_getElem? (pg_row hi)) (j : Int) (List.mem_of_getElem? hg) with h1 | h1
  · omega
  · have := pg_n d; simp only [Gr.n] at this; omega
/-- What a step is, phase by phase. -/
theorem stepH_iff {d : Det} (R : RightD d) {s ph : Nat} (hs : s < d.next.length) (hp : ph < 3) {h : Int} {j : Nat} :
    stepH d (3 * s + ph) h j ↔ ((0 ≤ h ∧ 2 * h < d.signs) ∧ j = 3 * stepD d s (2 * h) + (if ph = 0 then 1 else ph)) ∨ (ph = 1 ∧ (0 ≤ h ∧ 2 * h + 1 < d.signs) ∧ j = 3 * stepD d s (2 * h + 1) + 2) := by
  constructor
  · rintro ⟨a, ha, hg⟩
    rw [pgRow_at R hs hp a] at hg
    split at hg
    · rename_i hsg
      have hj := Option.some.inj hg
      unfold pstep at hj
      split at hj
      · rename_i he
        have e : (a : Int) = 2 * h := by omega
        left
        rw [← e]
        refine ⟨⟨by omega, hsg⟩, ?_⟩
        split at hj <;> rename_i hph
        · rw [if_pos hph]; omega
        · rw [if_neg hph]; omega
      · rename_i ho
        have e : (a : Int) = 2 * h + 1 := by omega
        split at hj
        · rename_i hph
          right
          rw [← e]
          exact ⟨hph, ⟨by omega, hsg⟩, by omega⟩
        · omega
    · cases hg
  · rintro (⟨⟨h0, h1⟩, hj⟩ | ⟨hph, ⟨h0, h1⟩, hj⟩)
    · refine ⟨(2 * h).toNat, by omega, ?_⟩
      have e : (((2 * h).toNat : Nat) : Int) = 2 * h := by omega
      rw [pgRow_at R hs hp, e, if_pos h1]
      unfold pstep
      rw [if_pos (by omega), hj]
      split <;> congr 1 <;> omega
    · refine ⟨(2 * h + 1).toNat, by omega, ?_⟩
      have e : (((2 * h + 1).toNat : Nat) : Int) = 2 * h + 1 := by omega
      rw [pgRow_at R hs hp, e, if_pos h1]
      unfold pstep
      rw [if_neg (by omega), if_pos hph, hj]
      congr 1; omega
theorem wrL_shift (q : Nat) : ∀ (hs : List Int) (i : Nat), wrL ((q + 1 : Nat) : Int) (i + 1) hs = wrL (q : Int) i hs
  | [], i => rfl
  | h :: hs, i => by
    have e : one1 ((q + 1 : Nat) : Int) (i + 1) = one1 (q : Int) i := by
      unfold one1
      by_cases hc : (i : Int) = q
      · rw [if_pos hc, if_pos (by omega)]
      · rw [if_neg hc, if_neg (by omega)]
    simp only [wrL]
    rw [wrL_shift q hs (i + 1), e]
theorem wrL_past : ∀ (hs : List Int) (i : Nat), wrL 0 (i + 1) hs = hs.map (2 * ·)
  | [], i => rfl
  | h :: hs, i => by
    have e : one1 0 (i + 1) = 0 := by
      unfold one1
      rw [if_neg (by omega)]
    simp only [wrL, List.map_cons]
    rw [wrL_past hs (i + 1), e]; congr 1; omega
theorem accP2 {d : Det} (R : RightD d) : ∀ (hs : List Int) (s : Nat), s < d.next.length → (accP d (3 * s + 2) hs ↔ accF d s (hs.map (2 * ·)))
  | [], s, hs => by
    rw [accP_nil, List.map_nil, accF_nil]
    have e1 : (3 * s + 2) % 3 = 2 := by omega
    have e2 : (3 * s + 2) / 3 = s := by omega
    simp [pgEnd, e1, e2]
  | h :: l, s, hs => by
    rw [accP_cons, List.map_cons, accF_cons]
    constructor
    · rintro ⟨j, h1, h2⟩
      rcases (stepH_iff R hs (by omega)).mp h1 with ⟨h3, hj⟩ | ⟨h3, _⟩
      · rw [if_neg (by omega)] at hj
        subst hj
        exact ⟨⟨by omega, h3.2⟩, (accP2 R l _ (stepD_lt R hs (by omega) h3.2)).mp h2⟩
      · omega
    · rintro ⟨h1, h2⟩
      exact ⟨_, (stepH_iff R hs (by omega)).mpr (.inl ⟨⟨by omega, h1.2⟩, rfl⟩), by rw [if_neg (by omega)]; exact (accP2 R l _ (stepD_lt R hs (by omega) h1.2)).mpr h2⟩
theorem accP1 {d : Det} (R : RightD d) : ∀ (hs : List Int) (s : Nat), s < d.next.length → (accP d (3 * s + 1) hs ↔ ∃ q : Nat, q < hs.length ∧ accF d s (wrL q 0 hs))
  | [], s, hs => by
    rw [accP_nil]
    have e1 : (3 * s + 1) % 3 = 1 := by omega
    simp [pgEnd, e1]
  | h :: l, s, hs => by
    rw [accP_cons]
    constructor
    · rintro ⟨j, h1, h2⟩
      rcases (stepH_iff R hs (by omega)).mp h1 with ⟨h3, hj⟩ | ⟨_, h3, hj⟩
      · rw [if_neg (by omega)] at hj
        subst hj
        obtain ⟨q, q1, q2⟩ := (accP1 R l _ (stepD_lt R hs (by omega) h3.2)).mp h2
        refine ⟨q + 1, by simpa using q1, ?_⟩
        simp only [wrL]
        rw [wrL_shift, accF_cons]
        have e : one1 ((q + 1 : Nat) : Int) 0 = 0 := by unfold one1; rw [if_neg (by omega)]
        rw [e, Int.add_zero]
        exact ⟨⟨by omega, h3.2⟩, q2⟩
      · subst hj
        have := (accP2 R l _ (stepD_lt R hs (by omega) h3.2)).mp h2
        refine ⟨0, by simp, ?_⟩
        simp only [wrL]
        rw [accF_cons]
        have e : one1 ((0 : Nat) : Int) 0 = 1 := by unfold one1; simp
        have e2 : wrL ((0 : Nat) : Int) (0 + 1) l = l.map (2 * ·) := wrL_past l 0
        rw [e, e2]
        exact ⟨⟨by omega, h3.2⟩, this⟩
    · rintro ⟨q, q1, q2⟩
      cases q with
      | zero =>
        simp only [wrL] at q2
        have e : one1 ((0 : Nat) : Int) 0 = 1 := by unfold one1; simp
        have e2 : wrL ((0 : Nat) : Int) (0 + 1) l = l.map (2 * ·) := wrL_past l 0
        rw [accF_cons, e, e2] at q2
        exact ⟨_, (stepH_iff R hs (by omega)).mpr (.inr ⟨rfl, ⟨by omega, q2.1.2⟩, rfl⟩), (accP2 R l _ (stepD_lt R hs q2.1.1 q2.1.2)).mpr q2.2⟩
      | succ q =>
        simp only [wrL] at q2
        have e : one1 ((q + 1 : Nat) : Int) 0 = 0 := by unfold one1; rw [if_neg (by omega)]
        rw [wrL_shift, accF_cons, e, Int.add_zero] at q2
        refine ⟨_, (stepH_iff R hs (by omega)).mpr (.inl ⟨⟨by omega, q2.1.2⟩, rfl⟩), ?_⟩
        rw [if_neg (by omega)]
        exact (accP1 R l _ (stepD_lt R hs q2.1.1 q2.1.2)).mpr ⟨q, by simpa using q1, q2.2⟩
theorem accP0 {d : Det} (R : RightD d) (hs : List Int) {s : Nat} (h : s < d.next.length) : accP d (3 * s) hs ↔ ∃ q : Nat, 1 ≤ q ∧ q < hs.length ∧ accF d s (wrL q 0 hs) := by
  have e0 : 3 * s = 3 * s + 0 := rfl
  cases hs with
  | nil =>
    rw [accP_nil]
    have e1 : (3 * s) % 3 = 0 := by omega
    simp [pgEnd, e1]
  | cons x l =>
    rw [accP_cons]
    constructor
    · rintro ⟨j, h1, h2⟩
      rw [e0] at h1
      rcases (stepH_iff R h (by omega)).mp h1 with ⟨h3, hj⟩ | ⟨h3, _⟩
      · rw [if_pos rfl] at hj
        subst hj
        obtain ⟨q, q1, q2⟩ := (accP1 R l _ (stepD_lt R h (by omega) h3.2)).mp h2
        refine ⟨q + 1, by omega, by simpa using q1, ?_⟩
        simp only [wrL]
        rw [wrL_shift, accF_cons]
        have e : one1 ((q + 1 : Nat) : Int) 0 = 0 := by unfold one1; rw [if_neg (by omega)]
        rw [e, Int.add_zero]
        exact ⟨⟨by omega, h3.2⟩, q2⟩
      · omega
    · rintro ⟨q, q0, q1, q2⟩
      obtain ⟨q, rfl⟩ : ∃ p, q = p + 1 := ⟨q - 1, by omega⟩
      simp only [wrL] at q2
      have e : one1 ((q + 1 : Nat) : Int) 0 = 0 := by unfold one1; rw [if_neg (by omega)]
      rw [wrL_shift, accF_cons, e, Int.add_zero] at q2
      refine ⟨_, by rw [e0]; exact (stepH_iff R h (by omega)).mpr (.inl ⟨⟨by omega, q2.1.2⟩, rfl⟩), ?_⟩
      rw [if_pos rfl]
      exact (accP1 R l _ (stepD_lt R h q2.1.1 q2.1.2)).mpr ⟨q, by simpa using q1, q2.2⟩

/-! ### half by half -/
def toL (d : Det) (far at_ : List Int) (h : Nat) (left : Int) : List Int :=
  at_.flatMap fun i => (((pgRow d i.toNat).drop (2 * h)).take 2).filter fun t => (t != -1) && (rd far t.toNat == left)
theorem mem_toL {d : Det} {far at_ : List Int} {h : Nat} {left x : Int} (hx : ∀ i ∈ at_, ∀ t ∈ pgRow d i.toNat, -1 ≤ t) :
    x ∈ toL d far at_ h left ↔ ∃ j : Nat, x = (j : Int) ∧ rd far j = left ∧ ∃ i ∈ at_, stepH d i.toNat h j := by
  simp only [toL, List.mem_flatMap, List.mem_filter, Bool.and_eq_true, bne_iff_ne, beq_iff_eq]
  constructor
  · rintro ⟨i, hi, hm, h1, h2⟩
    obtain ⟨k, he⟩ := List.mem_iff_getElem?.mp hm
    have hk2 : k < 2 := by
      by_cases hc : k < 2
      · exact hc
      · rw [List.getElem?_eq_none (by simp; omega)] at he; cases he
    rw [List.getElem?_take_of_lt hk2, List.getElem?_drop] at he
    have hge := hx i hi x (List.mem_of_getElem? he)
    refine ⟨x.toNat, by omega, by simpa using h2, i, hi, 2 * h + k, by omega, ?_⟩
    rw [he]; congr 1; omega
  · rintro ⟨j, rfl, h2, i, hi, a, ha, hg⟩
    refine ⟨i, hi, ?_, by omega, by simpa using h2⟩
    refine List.mem_iff_getElem?.mpr ⟨a - 2 * h, ?_⟩
    rw [List.getElem?_take_of_lt (by omega), List.getElem?_drop]
    have : 2 * h + (a - 2 * h) = a := by omega
    rw [this]; exact hg
def nextAt (d : Det) (far at_ : List Int) (h : Nat) (left : Int) : List Int := Lib.compact ((toL d far at_ h left).mergeSort fun x y => decide (x ≤ y))
theorem mem_nextAt {d : Det} {far at_ : List Int} {h : Nat} {left x : Int} : x ∈ nextAt d far at_ h left ↔ x ∈ toL d far at_ h left := by
  rw [nextAt, mem_compact, List.mem_mergeSort]
def halfOf (d : Det) (far at_ : List Int) (left : Int) : Nat := (List.range (d.signs / 2).toNat).findIdx fun h => !(toL d far at_ h left).isEmpty
def markFrom (d : Det) (far : List Int) : Nat → List Int → List Int
  | 0, _ => []
  | k + 1, at_ => (halfOf d far at_ k : Int) :: markFrom d far k (nextAt d far at_ (halfOf d far at_ k) k)
theorem markFrom_length (d : Det) (far : List Int) : ∀ (k : Nat) (at_ : List Int), (markFrom d far k at_).length = k
  | 0, _ => rfl
  | k + 1, at_ => by simp [markFrom, markFrom_length d far k]
structure AtOk (d : Det) (far at_ : List Int) (k : Nat) : Prop where
  ne : at_ ≠ []
  rng : ∀ x ∈ at_, 0 ≤ x ∧ x < 3 * d.next.length
  far : ∀ x ∈ at_, rd far x.toNat = (k : Int)
theorem AtOk.low {d : Det} (R : RightD d) {far at_ : List Int} {k : Nat} (h : AtOk d far at_ k) : ∀ i ∈ at_, ∀ t ∈ pgRow d i.toNat, -1 ≤ t := by
  intro i hi t ht
  obtain ⟨h0, h1⟩ := h.rng i hi
  rcases (pgOk R).at_ (pgRow d i.toNat) (List.mem_of_getElem? (pg_row (by omega))) t ht with h2 | h2 <;> omega
theorem findIdx_range {n : Nat} {p : Nat → Bool} (h : ∃ i ∈ List.range n, p i = true) : (List.range n).findIdx p < n ∧ p ((List.range n).findIdx p) = true ∧ ∀ i, i < (List.range n).findIdx p → p i = false := by
  have hlt : (List.range n).findIdx p < (List.range n).length := List.findIdx_lt_length_of_exists h
  refine ⟨by simpa using hlt, ?_, fun i hi => ?_⟩
  · have := List.findIdx_getElem (xs := List.range n) (p := p) (w := hlt)
    rw [List.getElem_range] at this; exact this
  · have := List.not_of_lt_findIdx (p := p) (xs := List.range n) (i := i) hi
    rw [List.getElem_range] at this; simpa using this
theorem half_ex {d : Det} (R : RightD d) (hev : d.signs % 2 = 0) {far : List Int} (fo : FarOk (pg d) far) {at_ : List Int} {k : Nat} (h : AtOk d far at_ (k + 1)) :
    halfOf d far at_ k < (d.signs / 2).toNat ∧ toL d far at_ (halfOf d far at_ k) k ≠ [] ∧ ∀ h', h' < halfOf d far at_ k → toL d far at_ h' k = [] := by
  obtain ⟨x, hx⟩ := List.exists_mem_of_ne_nil _ h.ne
  obtain ⟨h0, h1⟩ := h.rng x hx
  have hn := pg_n d
  obtain ⟨t, t1, ⟨row, r1, r2⟩, t3⟩ := fo.pre x.toNat (by omega) (by rw [h.far x hx]; omega)
  rw [pg_row (by omega)] at r1
  cases r1
  obtain ⟨a, ha, he⟩ := List.mem_iff_getElem.mp r2
  have hlen : (pgRow d x.toNat).length = d.signs.toNat := by
    have hs : x.toNat / 3 < d.next.length := by omega
    have := R.row _ hs
    simp only [pgRow, prow, List.length_mapIdx, List.getD_eq_getElem?_getD, List.getElem?_eq_getElem hs, Option.getD_some]
    omega
  have hmem : (t : Int) ∈ toL d far at_ (a / 2) k := (mem_toL (h.low R)).mpr ⟨t, rfl, by rw [t3, h.far x hx]; omega, x, hx, a, rfl, by rw [List.getElem?_eq_getElem ha, he]⟩
  have hex : ∃ h ∈ List.range (d.signs / 2).toNat, (fun h => !(toL d far at_ h (k : Int)).isEmpty) h = true := by
    refine ⟨a / 2, List.mem_range.mpr (by omega), ?_⟩
    cases hq : toL d far at_ (a / 2) (k : Int) with
    | nil => rw [hq] at hmem; simp at hmem
    | cons y ys => simp [hq]
  obtain ⟨q1, q2, q3⟩ := findIdx_range hex
  refine ⟨q1, fun e => ?_, fun h' hh' => ?_⟩
  · have e' : toL d far at_ ((List.range (d.signs / 2).toNat).findIdx fun h => !(toL d far at_ h (k : Int)).isEmpty) k = [] := e
    rw [e'] at q2; simp at q2
  · have := q3 h' hh'
    cases hq : toL d far at_ h' (k : Int) with
    | nil => rfl
    | cons y ys => simp [hq] at this
theorem AtOk.next {d : Det} (R : RightD d) {far : List Int} {at_ : List Int} {k : Nat} (h : AtOk d far at_ (k + 1)) {hf : Nat} (hne : toL d far at_ hf k ≠ []) : AtOk d far (nextAt d far at_ hf k) k := by
  have hm : ∀ x ∈ nextAt d far at_ hf k, ∃ j : Nat, x = (j : Int) ∧ rd far j = (k : Int) ∧ ∃ i ∈ at_, stepH d i.toNat hf j := fun x hx => (mem_toL (h.low R)).mp (mem_nextAt.mp hx)
  refine ⟨fun e => ?_, fun x hx => ?_, fun x hx => ?_⟩
  · obtain ⟨y, hy⟩ := List.exists_mem_of_ne_nil _ hne
    have := mem_nextAt.mpr hy
    rw [e] at this; simp at this
  · obtain ⟨j, rfl, _, i, hi, hs⟩ := hm x hx
    have := (stepH_lt R (by have := h.rng i hi; omega) hs).1
    omega
  · obtain ⟨j, rfl, hr, _⟩ := hm x hx
    simpa using hr
theorem mark_acc {d : Det} (R : RightD d) (hev : d.signs % 2 = 0) {far : List Int} (fo : FarOk (pg d) far) : ∀ (k : Nat) (at_ : List Int), AtOk d far at_ k → ∃ u ∈ at_, accP d u.toNat (markFrom d far k at_)
  | 0, at_, h => by
    obtain ⟨x, hx⟩ := List.exists_mem_of_ne_nil _ h.ne
    obtain ⟨h0, h1⟩ := h.rng x hx
    refine ⟨x, hx, accP_nil.mpr ?_⟩
    rw [← pg_end (by omega)]
    exact (fo.zero x.toNat (by have := pg_n d; omega)).mp (by simpa using h.far x hx)
  | k + 1, at_, h => by
    obtain ⟨e1, e2, _⟩ := half_ex R hev fo h
    obtain ⟨u', hu', hp⟩ := mark_acc R hev fo k _ (h.next R e2)
    obtain ⟨j, rfl, hr, i, hi, hs⟩ := (mem_toL (h.low R)).mp (mem_nextAt.mp hu')
    exact ⟨i, hi, by rw [markFrom, accP_cons]; exact ⟨j, hs, by simpa using hp⟩⟩
theorem accP_far {d : Det} (R : RightD d) {far : List Int} (fo : FarOk (pg d) far) : ∀ (hs : List Int) (i : Nat), i < 3 * d.next.length → accP d i hs → 0 ≤ rd far i ∧ rd far i ≤ hs.length
  | [], i, hi, h => by
    have := (fo.zero i (by have := pg_n d; omega)).mpr (by rw [pg_end hi]; exact accP_nil.mp h)
    simp [this]
  | x :: hs, i, hi, h => by
    obtain ⟨j, h1, h2⟩ := accP_cons.mp h
    obtain ⟨h3, h4, _⟩ := stepH_lt R hi h1
    obtain ⟨h5, h6⟩ := accP_far R fo hs j h3 h2
    have := fo.suc i j (by have := pg_n d; omega) (by have := pg_n d; omega) h4 h5
    simp; omega
theorem mark_least {d : Det} (R : RightD d) (hev : d.signs % 2 = 0) {far : List Int} (fo : FarOk (pg d) far) : ∀ (hs : List Int) (at_ : List Int), AtOk d far at_ hs.length → ∀ u ∈ at_, accP d u.toNat hs → 0 ≤ cmpL hs (markFrom d far hs.length at_)
  | [], at_, h, u, hu, hp => by simp [markFrom, cmpL]
  | x :: hs, at_, h, u, hu, hp => by
    obtain ⟨j, h1, h2⟩ := accP_cons.mp hp
    have hur := h.rng u hu
    obtain ⟨h3, h4, h5⟩ := stepH_lt R (by omega) h1
    obtain ⟨h6, h7⟩ := accP_far R fo hs j h3 h2
    have hsuc := fo.suc u.toNat j (by have := pg_n d; omega) (by have := pg_n d; omega) h4 h6
    have hfu := h.far u hu
    simp only [List.length_cons] at hfu h ⊢
    have hrj : rd far j = (hs.length : Int) := by omega
    obtain ⟨e1, e2, e3⟩ := half_ex R hev fo h
    have hmem : (j : Int) ∈ toL d far at_ x.toNat hs.length := (mem_toL (h.low R)).mpr ⟨j, rfl, hrj, u, hu, by rw [Int.toNat_of_nonneg h5]; exact h1⟩
    have hle : halfOf d far at_ hs.length ≤ x.toNat := by
      by_cases hc : halfOf d far at_ hs.length ≤ x.toNat
      · exact hc
      · have := e3 x.toNat (by omega); rw [this] at hmem; simp at hmem
    rw [markFrom]
    simp only [cmpL]
    split
    · unfold cmpI
      rw [if_neg (by omega)]
      split <;> omega
    · rename_i hne
      have hxe : x = (halfOf d far at_ hs.length : Int) := cmpI_zero.mp (Decidable.not_not.mp hne)
      have hxn : x.toNat = halfOf d far at_ hs.length := by omega
      refine mark_least R hev fo hs _ (h.next R e2) (j : Int) ?_ (by simpa using h2)
      rw [mem_nextAt, ← hxn]; exact hmem
end Go.Rf
