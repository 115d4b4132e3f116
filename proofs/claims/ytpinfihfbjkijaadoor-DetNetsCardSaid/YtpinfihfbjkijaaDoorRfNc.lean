import Derived.Test.YtpinfihfbjkijaaDoorRfK2
import Derived.Test.YtpinfihfbjkijaaDoorRfRows
import Derived.Test.YtpinfihfbjkijaaDoorRfB16
import Derived.Test.YtpinfihfbjkijaaDoorRfCell
import Derived.Test.YtpinfihfbjkijaaDoorRfG2
import Derived.Test.YtpinfihfbjkijaaDoorRfNb
import Derived.Test.YtpinfihfbjkijaaDoorRfN2
/- Own work: the net, the other way round, as the document makes it. -/
set_option linter.unusedVariables false
set_option linter.unusedSimpArgs false
namespace Go.Rf
open Go.RowKit

def rowP (n : Net) (i k : Nat) : Bool := if i = 0 then n.last.contains (k : Int) else (n.follow.getD k []).contains (i : Int)
/-- The states from 1 to below j from which one comes to i, the other way round. -/
def rowT (n : Net) (i j : Nat) : List Int := ((List.range j).filter fun k => decide (1 ≤ k) && rowP n i k).map Int.ofNat
structure TrS (n : Net) (i : Nat) (f : AF) (S : St) : Prop where
  e1 : f 1 = .ptr 0 0 0
  e2 : f 2 = .ptr 1 0 0
  e4 : f 4 = .ptr 11 0 0
  e5 : f 5 = encI i
  g0 : S.g 0 = some (.arr 4 [encNet n])
theorem TrS.same {n : Net} {i : Nat} {f f' : AF} {S S' : St} (h : TrS n i f S) (hf : ∀ j, j = 1 ∨ j = 2 ∨ j = 4 ∨ j = 5 → f' j = f j) (hg : S'.g 0 = S.g 0) : TrS n i f' S' :=
  ⟨by rw [hf _ (by simp)]; exact h.e1, by rw [hf _ (by simp)]; exact h.e2, by rw [hf _ (by simp)]; exact h.e4, by rw [hf _ (by simp)]; exact h.e5, by rw [hg]; exact h.g0⟩
def zNet : AV := .agg [.v (.int .i64 0), .sl true [], .sl true [], .sl true []]
structure TrO (n : Net) (i : Nat) (FV : AV) (rv : List AV) (f : AF) (S : St) : Prop where
  t : TrS n i f S
  g1 : S.g 1 = some (.arr 4 [zNet])
  g11 : S.g 11 = some (.arr 4 [.agg [encI n.signs, encIss n.by_, FV, .sl true []]])
  rows : ARows S.g S.n [0, 1, 11] (FV :: rv) (rv :: (List.range i).map fun k => (rowT n k n.by_.length).map encI)
  n : 12 ≤ S.n
theorem Vec.cell {g : Nat → Option Blk} {v : AV} {es : Nat} {xs : List AV} (h : Vec g v es xs) : v.cells = [v] ∧ v.solid = true := by
  rcases h with ⟨rfl, _⟩ | ⟨_, _, _, rfl, _⟩ <;> exact ⟨rfl, rfl⟩
theorem ARows.cells {g : Nat → Option Blk} {n : Nat} {av : List Nat} {vs : List AV} {ls : List (List AV)} (h : ARows g n av vs ls) : ∀ v ∈ vs, v.cells.length = 1 := by
  intro v hv
  obtain ⟨t, ht, rfl⟩ := List.getElem_of_mem hv
  rw [(h.row t ht (by rw [← h.len]; exact ht)).cell.1]; rfl
structure TrL (m : Net) (l0 : List Int) (FV : AV) (rv : List AV) (LV : AV) (pre : List Int) (f : AF) (S : St) : Prop where
  e1 : f 1 = .ptr 0 0 0
  e2 : f 2 = .ptr 1 0 0
  e4 : f 4 = .ptr 11 0 0
  g1 : S.g 1 = some (.arr 4 [zNet])
  g11 : S.g 11 = some (.arr 4 [.agg [encI m.signs, encIss m.by_, FV, LV]])
  rows : ARows S.g S.n [0, 1, 11] (FV :: rv) (rv :: m.follow.map fun l => l.map encI)
  n : 12 ≤ S.n
  last : m.last = pre ++ l0
  vec : Vec S.g LV 1 (pre.map encI)
  out : ∀ j ∈ LV.ids, j < S.n ∧ j ∉ [0, 1, 11]
  sep : ∀ v ∈ FV :: rv, ∀ j ∈ v.ids, j ∉ LV.ids
end Go.Rf


/- Own work: the net, the other way round, as the program makes it. -/
set_option linter.unusedVariables false
set_option linter.unusedSimpArgs false
namespace Go.Rf
open Go.RowKit

structure BtS (n : Net) (R : List (List Int)) (lst : List Int) (f : AF) (S : St) : Prop where
  e1 : f 1 = .ptr 0 0 0
  e2 : f 2 = .ptr 1 0 0
  e4 : f 4 = .ptr 15 0 0
  g0 : S.g 0 = some (.arr 4 [encNet n])
  g1 : S.g 1 = some (.arr 4 [zNet])
  ex : ∃ LV bv, S.g 15 = some (.arr 4 [.agg [encI n.signs, encIss n.by_, .own 13 0 n.by_.length, LV]]) ∧ S.g 13 = some (.arr 1 bv) ∧ Rows S.g S.n [0, 1, 13, 15] (LV :: bv) (lst :: R)
  n : 16 ≤ S.n
theorem BtS.same {n : Net} {R : List (List Int)} {lst : List Int} {f f' : AF} {S S' : St} (h : BtS n R lst f S) (hf : ∀ j, j = 1 ∨ j = 2 ∨ j = 4 → f' j = f j) (hg : S'.g = S.g) (hn : S.n ≤ S'.n) : BtS n R lst f' S' := by
  obtain ⟨LV, bv, h1, h2, h3⟩ := h.ex
  exact ⟨by rw [hf _ (by simp)]; exact h.e1, by rw [hf _ (by simp)]; exact h.e2, by rw [hf _ (by simp)]; exact h.e4, by rw [hg]; exact h.g0, by rw [hg]; exact h.g1, ⟨LV, bv, by rw [hg]; exact h1, by rw [hg]; exact h2, h3.frame hn (fun i _ _ => by rw [hg])⟩, Nat.le_trans h.n hn⟩
theorem BtS.grow {n : Net} {R : List (List Int)} {lst : List Int} {f f' : AF} {S : St} (h : BtS n R lst f S) {LV : AV} {bv : List AV} (g15 : S.g 15 = some (.arr 4 [.agg [encI n.signs, encIss n.by_, .own 13 0 n.by_.length, LV]])) (rows : Rows S.g S.n [0, 1, 13, 15] (LV :: bv) (lst :: R))
    {t : Nat} (ht : t < bv.length) (ht' : t < R.length) (x : Int) {m nid k : Nat} (h1 : S.n ≤ nid) (h2 : nid < m) (h3 : m ≤ k) (hf : ∀ j, j = 1 ∨ j = 2 ∨ j = 4 → f' j = f j) :
    BtS n (R.set t (R[t] ++ [x])) lst f' ⟨k, (((St.without ⟨m, S.g⟩ bv[t]).set nid (some (.arr 1 (R[t].map encI ++ [encI x])))).set 13 (some (.arr 1 (bv.set t (.own nid 0 (R[t].length + 1)))))).g⟩ := by
  have hn := h.n
  have hav : ∀ j, j ∈ [0, 1, 15] → (((St.without ⟨m, S.g⟩ bv[t]).set nid (some (.arr 1 (R[t].map encI ++ [encI x])))).set 13 (some (.arr 1 (bv.set t (.own nid 0 (R[t].length + 1)))))).g j = S.g j := by
    intro j hj
    have hne : j ≠ 13 := by intro e; subst e; simp at hj
    have hne2 : j ≠ nid := by intro e; subst e; simp at hj; omega
    rw [Z4y, if_neg hne]
    exact rows.av (t := t + 1) (by simpa using ht) _ (by simp at hj ⊢; omega) hne2
  refine ⟨by rw [hf _ (by simp)]; exact h.e1, by rw [hf _ (by simp)]; exact h.e2, by rw [hf _ (by simp)]; exact h.e4, ?_, ?_, ⟨LV, bv.set t (.own nid 0 (R[t].length + 1)), ?_, by simp [Z4y], ?_⟩, by show 16 ≤ k; omega⟩
  · rw [← h.g0]; exact hav 0 (by simp)
  · rw [← h.g1]; exact hav 1 (by simp)
  · rw [← g15]; exact hav 15 (by simp)
  · have h4 := rows.app (t := t + 1) (m := m) (nid := nid) (by simpa using ht) (by simpa using ht') x h1 h2 (by simp; omega)
    simp only [List.getElem_cons_succ, List.set_cons_succ] at h4
    refine h4.frame (by show m ≤ k; exact h3) (fun i _ hi => ?_)
    rw [Z4y, if_neg (by intro e; subst e; simp at hi)]
end Go.Rf


/- Own work: what the net the other way round accepts. -/
set_option linter.unusedVariables false
set_option linter.unusedSimpArgs false
namespace Go.Rf
open Go.RowKit

/-! ### what they accept -/
def edgeN (n : Net) (p q s : Int) : Prop := 0 ≤ p ∧ p < n.follow.length ∧ q ∈ n.follow.getD p.toNat [] ∧ behS n s q = true
theorem mem_stepN {n : Net} {a : List Int} {s q : Int} : q ∈ stepN n a s ↔ ∃ p ∈ a, edgeN n p q s := by
  unfold stepN behindL behind1 edgeN
  rw [mem_setF, List.mem_flatMap]
  constructor
  · rintro ⟨p, hp, h⟩
    split at h
    · rename_i hb
      have := List.mem_filter.mp h
      exact ⟨p, hp, hb.1, hb.2, this.1, this.2⟩
    · simp at h
  · rintro ⟨p, hp, h1, h2, h3, h4⟩
    exact ⟨p, hp, by rw [if_pos ⟨h1, h2⟩]; exact List.mem_filter.mpr ⟨h3, h4⟩⟩
theorem runN_snoc (n : Net) (l : List Int) (s : Int) : runN n (l ++ [s]) = stepN n (runN n l) s := by
  unfold runN; rw [List.foldl_append]; rfl
end Go.Rf


/- Own work: what the automata by sets accept (plain laws). -/
set_option linter.unusedVariables false
set_option linter.unusedSimpArgs false
namespace Go.Rf
open Go.RowKit

theorem snocRec {X : Type} {p : List X → Prop} (h0 : p []) (h1 : ∀ l x, p l → p (l ++ [x])) (l : List X) : p l := by
  have : ∀ r : List X, p r.reverse := by
    intro r
    induction r with
    | nil => exact h0
    | cons x r ih => rw [List.reverse_cons]; exact h1 _ _ ih
  rw [← List.reverse_reverse l]; exact this _
theorem numF_spec {most : Int} {ss ss' : List (List Int)} {x : List Int} {j : Int} (h : numF most ss x = some (ss', j)) : (∀ (i : Nat) (y : List Int), ss[i]? = some y → ss'[i]? = some y) ∧ ∃ k : Nat, j = k ∧ ss'[k]? = some x := by
  unfold numF at h
  split at h
  · rename_i hin
    cases h
    have hlt := List.idxOf_lt_length_of_mem hin
    exact ⟨fun i y hy => hy, _, rfl, by rw [List.getElem?_eq_getElem hlt, List.getElem_idxOf hlt]⟩
  · split at h
    · cases h
    · cases h
      refine ⟨fun i y hy => ?_, ss.length, rfl, by simp⟩
      have hl := (List.getElem?_eq_some_iff.mp hy).1
      rw [List.getElem?_append_left hl]; exact hy
theorem rowF_spec {most : Int} {b : Int → List Int} {ss : List (List Int)} : ∀ (k : Nat) {ss' : List (List Int)} {r : List Int}, rowF most b k ss = some (ss', r) →
    (∀ (i : Nat) (y : List Int), ss[i]? = some y → ss'[i]? = some y) ∧ r.length = k ∧ ∀ s : Nat, s < k → ∃ j : Nat, r[s]? = some (j : Int) ∧ ss'[j]? = some (b s)
  | 0, ss', r, h => by
    simp only [rowF, Option.some.injEq, Prod.mk.injEq] at h
    obtain ⟨rfl, rfl⟩ := h
    exact ⟨fun _ _ h => h, rfl, fun s hs => by omega⟩
  | k + 1, ss', r, h => by
    simp only [rowF] at h
    split at h
    · cases h
    · rename_i s1 r1 h1
      obtain ⟨i1, i2, i3⟩ := rowF_spec k h1
      split at h
      · cases h
      · rename_i s2 j h2
        cases h
        obtain ⟨j1, q, rfl, j2⟩ := numF_spec h2
        refine ⟨fun i y hy => j1 i y (i1 i y hy), by simp [i2], fun s hs => ?_⟩
        by_cases hsk : s = k
        · subst hsk
          refine ⟨q, ?_, j2⟩
          rw [List.getElem?_append_right (by omega), i2]; simp
        · obtain ⟨j, a1, a2⟩ := i3 s (by omega)
          refine ⟨j, ?_, j1 _ _ a2⟩
          rw [List.getElem?_append_left (by omega)]; exact a1
structure StSp (kd : Kd) (n : Net) (i : Nat) (st : Sts) : Prop where
  zero : st.1[0]? = some [0]
  row : ∀ k < i, ∃ set r, st.1[k]? = some set ∧ st.2.2[k]? = some (endsB n set) ∧ st.2.1[k]? = some r ∧ ∀ s : Nat, s < n.signs.toNat → ∃ j : Nat, r[s]? = some (j : Int) ∧ st.1[j]? = some (bhS kd n set s)
theorem stF_spec {kd : Kd} {n : Net} (R : RightN n) {most : Int} (hm : 1 ≤ most) : ∀ (i : Nat) {st : Sts}, stF kd n most i = some st → StSp kd n i st
  | 0, st, e => by
    simp only [stF, Option.some.injEq] at e
    subst e
    exact ⟨rfl, fun k hk => by omega⟩
  | i + 1, st, e => by
    simp only [stF] at e
    split at e
    · cases e
    · rename_i st0 h0
      have ih := stF_spec R hm i h0
      have ok := stF_ok R hm i h0
      unfold nxF at e
      split at e
      · cases e
      · rename_i set hset
        split at e
        · cases e
        · rename_i s2 r hr
          cases e
          obtain ⟨a1, a2, a3⟩ := rowF_spec _ hr
          refine ⟨a1 _ _ ih.zero, fun k hk => ?_⟩
          by_cases hki : k = i
          · subst hki
            refine ⟨set, r, a1 _ _ hset, ?_, ?_, a3⟩
            · simp only; rw [List.getElem?_append_right (by have := ok.en; omega)]; simp [ok.en]
            · simp only; rw [List.getElem?_append_right (by have := ok.nx; omega)]; simp [ok.nx]
          · obtain ⟨set', r', b1, b2, b3, b4⟩ := ih.row k (by omega)
            refine ⟨set', r', a1 _ _ b1, ?_, ?_, fun s hs => ?_⟩
            · have := (List.getElem?_eq_some_iff.mp b2).1
              simp only; rw [List.getElem?_append_left this]; exact b2
            · have := (List.getElem?_eq_some_iff.mp b3).1
              simp only; rw [List.getElem?_append_left this]; exact b3
            · obtain ⟨j, c1, c2⟩ := b4 s hs
              exact ⟨j, c1, a1 _ _ c2⟩
def setAt (kd : Kd) (n : Net) (set l : List Int) : List Int := l.foldl (bhS kd n) set
theorem dmake_det {kd : Kd} {n : Net} (R : RightN n) {most : Int} (hm : 1 ≤ most) (h3 : most ≤ 3000) {st : Sts} (h : dmakeF kd n most = some st) :
    RightD ⟨n.signs, st.2.1, st.2.2⟩ ∧ ∀ l : List Int, (∀ s ∈ l, 0 ≤ s ∧ s < n.signs) → accD ⟨n.signs, st.2.1, st.2.2⟩ l = endsB n (setAt kd n [0] l) := by
  have hst := dmake_some h
  have ok := stF_ok R hm _ hst
  have sp := stF_spec R hm _ hst
  have hl := ok.ss.l
  have hnx := ok.nx
  have hen := ok.en
  have h0 := (List.getElem?_eq_some_iff.mp sp.zero).1
  have D : RightD ⟨n.signs, st.2.1, st.2.2⟩ := by
    refine ⟨R.s1, R.s2, by simp only; omega, by simp only; omega, by simp only; omega, fun i hi => ?_, fun i hi j hj => ?_⟩
    · simp only at hi ⊢
      have h7 : (st.2.1[i]).length = n.signs.toNat := ok.row _ (List.getElem_mem hi)
      have := R.s1
      omega
    · simp only at hi hj ⊢
      obtain ⟨set, r, b1, b2, b3, b4⟩ := sp.row i (by omega)
      rw [List.getElem?_eq_getElem hi] at b3
      cases b3
      have hrl := ok.row _ (List.getElem_mem hi)
      obtain ⟨q, c1, c2⟩ := b4 j (by omega)
      obtain ⟨_, c3⟩ := List.getElem?_eq_some_iff.mp c1
      have := (List.getElem?_eq_some_iff.mp c2).1
      rw [c3]; omega
  refine ⟨D, fun l hls => ?_⟩
  have key : ∀ (l : List Int) (a : Nat) (set : List Int), (∀ s ∈ l, 0 ≤ s ∧ s < n.signs) → st.1[a]? = some set → ∃ a', runFrom ⟨n.signs, st.2.1, st.2.2⟩ a l = some a' ∧ st.1[a']? = some (setAt kd n set l) := by
    intro l
    induction l with
    | nil => intro a set _ ha; exact ⟨a, rfl, ha⟩
    | cons s l ih =>
      intro a set hs ha
      have hs0 := hs s (by simp)
      have hal := (List.getElem?_eq_some_iff.mp ha).1
      obtain ⟨set', r, b1, b2, b3, b4⟩ := sp.row a hal
      rw [ha] at b1; cases b1
      obtain ⟨j, c1, c2⟩ := b4 s.toNat (by omega)
      have hst : ((s.toNat : Nat) : Int) = s := by omega
      rw [hst] at c2
      have hstep : stepD ⟨n.signs, st.2.1, st.2.2⟩ a s = j := by
        simp [stepD, List.getD_eq_getElem?_getD, b3, c1]
      obtain ⟨a', d1, d2⟩ := ih j _ (fun x hx => hs x (by simp [hx])) c2
      exact ⟨a', by rw [runFrom, if_pos hs0, hstep]; exact d1, d2⟩
  obtain ⟨a', e1, e2⟩ := key l 0 [0] hls sp.zero
  have hal := (List.getElem?_eq_some_iff.mp e2).1
  obtain ⟨set', r, b1, b2, b3, b4⟩ := sp.row a' hal
  rw [e2] at b1; cases b1
  have hrun : runD ⟨n.signs, st.2.1, st.2.2⟩ l = some a' := by rw [runD, if_pos ((right_iff _).mpr D)]; exact e1
  simp [accD, hrun, List.getD_eq_getElem?_getD, b2]
/-! ### what has such an end, and such a beginning -/
theorem endsB_iff {n : Net} {set : List Int} : endsB n set = true ↔ ∃ x ∈ set, x ∈ n.last := by simp [endsB]
theorem accN_ends {n : Net} (h : rightN n = true) (l : List Int) : accN n l = endsB n (runN n l) := by simp [accN, h, endsB]
theorem setAt_snoc (kd : Kd) (n : Net) (set l : List Int) (s : Int) : setAt kd n set (l ++ [s]) = bhS kd n (setAt kd n set l) s := by simp [setAt]
theorem whole_acc {n : Net} (h : rightN n = true) (l : List Int) : endsB n (setAt .whole n [0] l) = accN n l := by
  rw [accN_ends h]; rfl
theorem tails_mem {n : Net} (l : List Int) : ∀ q : Int, q ∈ setAt .tails n [0] l ↔ ∃ i ≤ l.length, q ∈ runN n (l.drop i) := by
  refine snocRec (p := fun l => ∀ q : Int, q ∈ setAt .tails n [0] l ↔ ∃ i ≤ l.length, q ∈ runN n (l.drop i)) ?_ ?_ l
  · intro q; simp [setAt, runN]
  · intro l s ih q
    rw [setAt_snoc]
    simp only [bhS, List.mem_cons]
    constructor
    · rintro (rfl | hq)
      · exact ⟨(l ++ [s]).length, Nat.le_refl _, by rw [List.drop_length]; simp [runN]⟩
      · rw [mem_stepN] at hq
        obtain ⟨p, hp, he⟩ := hq
        obtain ⟨i, hi, hpi⟩ := (ih p).mp hp
        refine ⟨i, by simp; omega, ?_⟩
        rw [List.drop_append_of_le_length hi, runN_snoc, mem_stepN]
        exact ⟨p, hpi, he⟩
    · rintro ⟨i, hi, hq⟩
      simp only [List.length_append, List.length_cons, List.length_nil] at hi
      by_cases hil : i ≤ l.length
      · right
        rw [List.drop_append_of_le_length hil, runN_snoc, mem_stepN] at hq
        obtain ⟨p, hp, he⟩ := hq
        rw [mem_stepN]
        exact ⟨p, (ih p).mpr ⟨i, hil, hp⟩, he⟩
      · left
        have : (l ++ [s]).drop i = [] := List.drop_eq_nil_of_le (by simp; omega)
        rw [this] at hq
        simpa [runN] using hq
theorem filtL_pos {p : Nat → Bool} {i : Nat} : 0 < (filtL p i).length ↔ ∃ k < i, p k = true := by
  simp only [filtL, List.length_map, List.length_pos_iff_exists_mem, List.mem_filter, List.mem_range]
theorem tails_acc {n : Net} (h : rightN n = true) (l : List Int) : endsB n (setAt .tails n [0] l) = decide (0 < (filtL (tlP n l) (l.length + 1)).length) := by
  rw [Bool.eq_iff_iff, endsB_iff, decide_eq_true_iff, filtL_pos]
  constructor
  · rintro ⟨q, hq, hl⟩
    obtain ⟨i, hi, hqi⟩ := (tails_mem l q).mp hq
    refine ⟨l.length - i, by omega, ?_⟩
    have e : l.length - (l.length - i) = i := by omega
    rw [tlP, e, accN_ends h, endsB_iff]
    exact ⟨q, hqi, hl⟩
  · rintro ⟨k, hk, hp⟩
    rw [tlP, accN_ends h, endsB_iff] at hp
    obtain ⟨q, hq, hl⟩ := hp
    exact ⟨q, (tails_mem l q).mpr ⟨l.length - k, by omega, hq⟩, hl⟩
theorem heads_set {n : Net} (h : rightN n = true) (l : List Int) : if ∃ k < l.length + 1, hdP n l k = true then endsB n (setAt .heads n [0] l) = true else setAt .heads n [0] l = runN n l := by
  refine snocRec (p := fun l => if ∃ k < l.length + 1, hdP n l k = true then endsB n (setAt .heads n [0] l) = true else setAt .heads n [0] l = runN n l) ?_ ?_ l
  · split
    · rename_i hk
      obtain ⟨k, hk, hp⟩ := hk
      simp only [hdP, List.take_nil] at hp
      rw [accN_ends h] at hp
      exact hp
    · rfl
  · intro l s ih
    rw [setAt_snoc]
    have htk : ∀ k, k ≤ l.length → hdP n (l ++ [s]) k = hdP n l k := fun k hk => by simp only [hdP]; rw [List.take_append_of_le_length hk]
    by_cases hex : ∃ k < l.length + 1, hdP n l k = true
    · rw [if_pos hex] at ih
      obtain ⟨k, hk, hp⟩ := hex
      rw [if_pos ⟨k, by simp; omega, by rw [htk k (by omega)]; exact hp⟩]
      simp only [bhS, ih, if_true]
    · rw [if_neg hex] at ih
      have hno : endsB n (runN n l) = false := by
        cases hb : endsB n (runN n l) with
        | false => rfl
        | true => exact (hex ⟨l.length, by omega, by rw [hdP, List.take_length, accN_ends h]; exact hb⟩).elim
      have hst : bhS .heads n (setAt .heads n [0] l) s = runN n (l ++ [s]) := by simp only [bhS, ih, hno, Bool.false_eq_true, if_false]; rw [runN_snoc]
      rw [hst]
      split
      · rename_i hk
        obtain ⟨k, hk, hp⟩ := hk
        simp only [List.length_append, List.length_cons, List.length_nil] at hk
        by_cases hkl : k ≤ l.length
        · rw [htk k hkl] at hp
          exact (hex ⟨k, by omega, hp⟩).elim
        · rw [hdP, List.take_of_length_le (by simp; omega), accN_ends h] at hp
          exact hp
      · rfl
theorem heads_acc {n : Net} (h : rightN n = true) (l : List Int) : endsB n (setAt .heads n [0] l) = decide (0 < (filtL (hdP n l) (l.length + 1)).length) := by
  have := heads_set h l
  by_cases hex : ∃ k < l.length + 1, hdP n l k = true
  · rw [if_pos hex] at this
    rw [this]
    exact (decide_eq_true (filtL_pos.mpr hex)).symm
  · rw [if_neg hex] at this
    rw [this]
    have hd : decide (0 < (filtL (hdP n l) (l.length + 1)).length) = false := decide_eq_false (fun hp => hex (filtL_pos.mp hp))
    rw [hd]
    cases hb : endsB n (runN n l) with
    | false => rfl
    | true => exact (hex ⟨l.length, by omega, by rw [hdP, List.take_length, accN_ends h]; exact hb⟩).elim
end Go.Rf


/- Own work: nets and automata as values, for the rules. -/
set_option linter.unusedVariables false
set_option linter.unusedSimpArgs false
namespace Go.Rf
open Go.RowKit
theorem Z54 (n : Net) : (encNet n).solid = true := rfl
theorem Z2p (n : Net) : (encNet n).cells = [.v (.int .i64 n.signs), encIss n.by_, encIss n.follow, encIs n.last] := rfl
theorem Z2f (n : Net) : AV.agg [.v (.int .i64 n.signs), encIss n.by_, encIss n.follow, encIs n.last] = encNet n := rfl
theorem Z51 (d : Det) : (encDet d).solid = true := rfl
theorem Z2m (d : Det) : (encDet d).cells = [.v (.int .i64 d.signs), encIss d.next, encBs d.fin] := rfl
theorem Z2e (d : Det) : AV.agg [.v (.int .i64 d.signs), encIss d.next, encBs d.fin] = encDet d := rfl
theorem Z3j (l : List Int) : exLen (encIs l) = some (.v (.int .i64 l.length)) := by simp [encIs, exLen]
theorem Z3k (l : List (List Int)) : exLen (encIss l) = some (.v (.int .i64 l.length)) := by simp [encIss, exLen]
theorem Z3i (l : List Bool) : exLen (encBs l) = some (.v (.int .i64 l.length)) := by simp [encBs, exLen]
theorem Z4a {S : St} {nid : Nat} {l : List Int} {k : IntKind} {n : Int} (hn : 0 ≤ n) (hlt : n < l.length) : (exIdxA 1 (encIs l) (.v (.int k n))).run S nid = some (.eptr (encI (l.getD n.toNat 0)) 0, S) := by
  have hl : n.toNat < l.length := by omega
  simp [encIs, exIdxA, hn, List.getElem?_eq_getElem hl, List.getD_eq_getElem?_getD, AV.cells, encI]
theorem Z4b {S : St} {nid : Nat} {l : List (List Int)} {k : IntKind} {n : Int} (hn : 0 ≤ n) (hlt : n < l.length) : (exIdxA 1 (encIss l) (.v (.int k n))).run S nid = some (.eptr (encIs (l.getD n.toNat [])) 0, S) := by
  have hl : n.toNat < l.length := by omega
  simp [encIss, exIdxA, hn, List.getElem?_eq_getElem hl, List.getD_eq_getElem?_getD, AV.cells, encIs]
theorem Z49 {S : St} {nid : Nat} {l : List Bool} {k : IntKind} {n : Int} (hn : 0 ≤ n) (hlt : n < l.length) : (exIdxA 1 (encBs l) (.v (.int k n))).run S nid = some (.eptr (encB (l.getD n.toNat false)) 0, S) := by
  have hl : n.toNat < l.length := by omega
  simp [encBs, exIdxA, hn, List.getElem?_eq_getElem hl, List.getD_eq_getElem?_getD, AV.cells, encB]
theorem Z47 {S : St} {nid : Nat} {l : List Int} {k : IntKind} {n : Int} (hn : 0 ≤ n) (hlt : n < l.length) : (exIdxA 1 (encIs l) (.v (.int k n))).runT S nid = some (.eptr (encI (l.getD n.toNat 0)) 0, S, [], []) := by
  have hl : n.toNat < l.length := by omega
  simp [encIs, exIdxA, hn, List.getElem?_eq_getElem hl, List.getD_eq_getElem?_getD, AV.cells, encI, Z4w]
theorem Z48 {S : St} {nid : Nat} {l : List (List Int)} {k : IntKind} {n : Int} (hn : 0 ≤ n) (hlt : n < l.length) : (exIdxA 1 (encIss l) (.v (.int k n))).runT S nid = some (.eptr (encIs (l.getD n.toNat [])) 0, S, [], []) := by
  have hl : n.toNat < l.length := by omega
  simp [encIss, exIdxA, hn, List.getElem?_eq_getElem hl, List.getD_eq_getElem?_getD, AV.cells, encIs, Z4w]
theorem idxT_Bs {S : St} {nid : Nat} {l : List Bool} {k : IntKind} {n : Int} (hn : 0 ≤ n) (hlt : n < l.length) : (exIdxA 1 (encBs l) (.v (.int k n))).runT S nid = some (.eptr (encB (l.getD n.toNat false)) 0, S, [], []) := by
  have hl : n.toNat < l.length := by omega
  simp [encBs, exIdxA, hn, List.getElem?_eq_getElem hl, List.getD_eq_getElem?_getD, AV.cells, encB, Z4w]
/-- A list of lists in which only one is another one. -/
theorem getD_I {l : List Int} {i : Nat} (h : i < l.length) : l.getD i 0 = l[i] := by rw [List.getD_eq_getElem?_getD, List.getElem?_eq_getElem h]; rfl
end Go.Rf

