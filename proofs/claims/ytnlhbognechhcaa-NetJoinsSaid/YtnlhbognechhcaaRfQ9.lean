import Derived.Test.YtnlhbognechhcaaRfCell
import Derived.Test.YtnlhbognechhcaaRfV1
import Derived.Test.YtnlhbognechhcaaRfB16
import Derived.Test.YtnlhbognechhcaaRfQ8
/- Own work: several lists of one's own, of whatever elements, apart from one another. -/
set_option linter.unusedVariables false
set_option linter.unusedSimpArgs false
namespace Go.Rf
open Go.RowKit
structure ARows (g : Nat → Option Blk) (n : Nat) (av : List Nat) (vs : List AV) (ls : List (List AV)) : Prop where
  len : vs.length = ls.length
  row : ∀ t (h : t < vs.length) (h' : t < ls.length), Vec g vs[t] 1 (ls[t])
  sep : vs.Pairwise (fun a b => ∀ i ∈ a.ids, i ∉ b.ids)
  out : ∀ v ∈ vs, ∀ i ∈ v.ids, i < n ∧ i ∉ av
theorem ARows.nil {g : Nat → Option Blk} {n : Nat} {av : List Nat} : ARows g n av [] [] := ⟨rfl, fun t h => by simp at h, .nil, by simp⟩
theorem ARows.cons {g : Nat → Option Blk} {n : Nat} {av : List Nat} {vs : List AV} {ls : List (List AV)} {v : AV} {l : List AV} (hv : Vec g v 1 l) (ho : ∀ i ∈ v.ids, i < n ∧ i ∉ av) (hs : ∀ w ∈ vs, ∀ i ∈ v.ids, i ∉ w.ids) (h : ARows g n av vs ls) :
    ARows g n av (v :: vs) (l :: ls) := by
  refine ⟨by simp [h.len], fun t h1 h2 => ?_, List.pairwise_cons.mpr ⟨hs, h.sep⟩, fun w hw => ?_⟩
  · cases t with
    | zero => exact hv
    | succ t => exact h.row t (by simpa using h1) (by simpa using h2)
  · rcases List.mem_cons.mp hw with rfl | hw
    · exact ho
    · exact h.out w hw
theorem ARows.head {g : Nat → Option Blk} {n : Nat} {av : List Nat} {vs : List AV} {ls : List (List AV)} {v : AV} {l : List AV} (h : ARows g n av (v :: vs) (l :: ls)) :
    Vec g v 1 l ∧ (∀ i ∈ v.ids, i < n ∧ i ∉ av) ∧ (∀ w ∈ vs, ∀ i ∈ v.ids, i ∉ w.ids) ∧ ARows g n av vs ls := by
  have hp := List.pairwise_cons.mp h.sep
  refine ⟨h.row 0 (by simp) (by simp), h.out v (by simp), hp.1, by have := h.len; simpa using this, fun t h1 h2 => ?_, hp.2, fun w hw => h.out w (by simp [hw])⟩
  exact h.row (t + 1) (by simpa using h1) (by simpa using h2)
theorem ARows.frame {g g' : Nat → Option Blk} {n n' : Nat} {av : List Nat} {vs : List AV} {ls : List (List AV)} (h : ARows g n av vs ls) (hn : n ≤ n') (hg : ∀ v ∈ vs, ∀ i ∈ v.ids, g' i = g i) : ARows g' n' av vs ls :=
  ⟨h.len, fun t h1 h2 => (h.row t h1 h2).frame (fun i hi => hg _ (List.getElem_mem h1) i hi), h.sep, fun v hv i hi => ⟨Nat.lt_of_lt_of_le (h.out v hv i hi).1 hn, (h.out v hv i hi).2⟩⟩
theorem ARows.snoc {g : Nat → Option Blk} {n : Nat} {av : List Nat} {vs : List AV} {ls : List (List AV)} {v : AV} {l : List AV} (h : ARows g n av vs ls) (hv : Vec g v 1 l) (ho : ∀ i ∈ v.ids, i < n ∧ i ∉ av) (hs : ∀ w ∈ vs, ∀ i ∈ w.ids, i ∉ v.ids) :
    ARows g n av (vs ++ [v]) (ls ++ [l]) := by
  refine ⟨by simp [h.len], fun t h1 h2 => ?_, ?_, fun w hw => ?_⟩
  · by_cases ht : t < vs.length
    · have ht2 : t < ls.length := by rw [← h.len]; exact ht
      rw [List.getElem_append_left ht, List.getElem_append_left ht2]; exact h.row t ht ht2
    · have e : t = vs.length := by simp at h1; omega
      have e2 : t = ls.length := by rw [← h.len]; exact e
      rw [List.getElem_append_right (by omega), List.getElem_append_right (by omega)]
      simp [e, ← h.len]; exact hv
  · rw [List.pairwise_append]
    exact ⟨h.sep, by simp, fun a ha b hb => by simp at hb; subst hb; exact hs a ha⟩
  · rcases List.mem_append.mp hw with hw | hw
    · exact h.out w hw
    · simp at hw; subst hw; exact ho
theorem Vec.fzL {g : Nat → Option Blk} {v : AV} {es : Nat} {xs zs : List AV} (h : Vec g v es xs) (hl : zs.length = xs.length) (hz : ∀ i (h1 : i < xs.length) (h2 : i < zs.length), Fz g (xs[i]) (zs[i])) : Fz g v (.sl false zs) := by
  rcases h with ⟨rfl, h0⟩ | ⟨id, off, ys, rfl, h1, h2, h3⟩
  · subst h0
    have : zs = [] := List.eq_nil_of_length_eq_zero hl
    subst this; exact .loose true [] (.sl _ _ (by simp))
  · have hle : off + xs.length = ys.length := by rw [← h3]; simp; omega
    have ht : (ys.drop off).take xs.length = xs := by rw [h3, List.take_length]
    refine .own id off _ es ys zs h1 (by omega) hl (fun i k1 k2 => ?_)
    simp only [ht] at k1 ⊢
    exact hz i k1 k2
end Go.Rf


/- Own work: the net, the other way round, as the document makes it. -/
set_option linter.unusedVariables false
set_option linter.unusedSimpArgs false
namespace Go.Rf
open Go.RowKit

def rowP (n : Net) (i k : Nat) : Bool := if i = 0 then n.last.contains (k : Int) else (n.follow.getD k []).contains (i : Int)
/-- The states from 1 to below j from which one comes to i, the other way round. -/
def rowT (n : Net) (i j : Nat) : List Int := ((List.range j).filter fun k => decide (1 ≤ k) && rowP n i k).map Int.ofNat
structure TrS (n : Net) (i : Nat) (f : AF) (S : St) : Prop where
  e1 : f 1 = .ptr 0 0 0
  e2 : f 2 = .ptr 1 0 0
  e4 : f 4 = .ptr 11 0 0
  e5 : f 5 = encI i
  g0 : S.g 0 = some (.arr 4 [encNet n])
theorem TrS.same {n : Net} {i : Nat} {f f' : AF} {S S' : St} (h : TrS n i f S) (hf : ∀ j, j = 1 ∨ j = 2 ∨ j = 4 ∨ j = 5 → f' j = f j) (hg : S'.g 0 = S.g 0) : TrS n i f' S' :=
  ⟨by rw [hf _ (by simp)]; exact h.e1, by rw [hf _ (by simp)]; exact h.e2, by rw [hf _ (by simp)]; exact h.e4, by rw [hf _ (by simp)]; exact h.e5, by rw [hg]; exact h.g0⟩
def zNet : AV := .agg [.v (.int .i64 0), .sl true [], .sl true [], .sl true []]
structure TrO (n : Net) (i : Nat) (FV : AV) (rv : List AV) (f : AF) (S : St) : Prop where
  t : TrS n i f S
  g1 : S.g 1 = some (.arr 4 [zNet])
  g11 : S.g 11 = some (.arr 4 [.agg [encI n.signs, encIss n.by_, FV, .sl true []]])
  rows : ARows S.g S.n [0, 1, 11] (FV :: rv) (rv :: (List.range i).map fun k => (rowT n k n.by_.length).map encI)
  n : 12 ≤ S.n
theorem Vec.cell {g : Nat → Option Blk} {v : AV} {es : Nat} {xs : List AV} (h : Vec g v es xs) : v.cells = [v] ∧ v.solid = true := by
  rcases h with ⟨rfl, _⟩ | ⟨_, _, _, rfl, _⟩ <;> exact ⟨rfl, rfl⟩
theorem ARows.cells {g : Nat → Option Blk} {n : Nat} {av : List Nat} {vs : List AV} {ls : List (List AV)} (h : ARows g n av vs ls) : ∀ v ∈ vs, v.cells.length = 1 := by
  intro v hv
  obtain ⟨t, ht, rfl⟩ := List.getElem_of_mem hv
  rw [(h.row t ht (by rw [← h.len]; exact ht)).cell.1]; rfl
structure TrL (m : Net) (l0 : List Int) (FV : AV) (rv : List AV) (LV : AV) (pre : List Int) (f : AF) (S : St) : Prop where
  e1 : f 1 = .ptr 0 0 0
  e2 : f 2 = .ptr 1 0 0
  e4 : f 4 = .ptr 11 0 0
  g1 : S.g 1 = some (.arr 4 [zNet])
  g11 : S.g 11 = some (.arr 4 [.agg [encI m.signs, encIss m.by_, FV, LV]])
  rows : ARows S.g S.n [0, 1, 11] (FV :: rv) (rv :: m.follow.map fun l => l.map encI)
  n : 12 ≤ S.n
  last : m.last = pre ++ l0
  vec : Vec S.g LV 1 (pre.map encI)
  out : ∀ j ∈ LV.ids, j < S.n ∧ j ∉ [0, 1, 11]
  sep : ∀ v ∈ FV :: rv, ∀ j ∈ v.ids, j ∉ LV.ids
end Go.Rf


/- Own work: the net, the other way round, as the program makes it. -/
set_option linter.unusedVariables false
set_option linter.unusedSimpArgs false
namespace Go.Rf
open Go.RowKit

structure BtS (n : Net) (R : List (List Int)) (lst : List Int) (f : AF) (S : St) : Prop where
  e1 : f 1 = .ptr 0 0 0
  e2 : f 2 = .ptr 1 0 0
  e4 : f 4 = .ptr 15 0 0
  g0 : S.g 0 = some (.arr 4 [encNet n])
  g1 : S.g 1 = some (.arr 4 [zNet])
  ex : ∃ LV bv, S.g 15 = some (.arr 4 [.agg [encI n.signs, encIss n.by_, .own 13 0 n.by_.length, LV]]) ∧ S.g 13 = some (.arr 1 bv) ∧ Rows S.g S.n [0, 1, 13, 15] (LV :: bv) (lst :: R)
  n : 16 ≤ S.n
theorem BtS.same {n : Net} {R : List (List Int)} {lst : List Int} {f f' : AF} {S S' : St} (h : BtS n R lst f S) (hf : ∀ j, j = 1 ∨ j = 2 ∨ j = 4 → f' j = f j) (hg : S'.g = S.g) (hn : S.n ≤ S'.n) : BtS n R lst f' S' := by
  obtain ⟨LV, bv, h1, h2, h3⟩ := h.ex
  exact ⟨by rw [hf _ (by simp)]; exact h.e1, by rw [hf _ (by simp)]; exact h.e2, by rw [hf _ (by simp)]; exact h.e4, by rw [hg]; exact h.g0, by rw [hg]; exact h.g1, ⟨LV, bv, by rw [hg]; exact h1, by rw [hg]; exact h2, h3.frame hn (fun i _ _ => by rw [hg])⟩, Nat.le_trans h.n hn⟩
theorem BtS.grow {n : Net} {R : List (List Int)} {lst : List Int} {f f' : AF} {S : St} (h : BtS n R lst f S) {LV : AV} {bv : List AV} (g15 : S.g 15 = some (.arr 4 [.agg [encI n.signs, encIss n.by_, .own 13 0 n.by_.length, LV]])) (rows : Rows S.g S.n [0, 1, 13, 15] (LV :: bv) (lst :: R))
    {t : Nat} (ht : t < bv.length) (ht' : t < R.length) (x : Int) {m nid k : Nat} (h1 : S.n ≤ nid) (h2 : nid < m) (h3 : m ≤ k) (hf : ∀ j, j = 1 ∨ j = 2 ∨ j = 4 → f' j = f j) :
    BtS n (R.set t (R[t] ++ [x])) lst f' ⟨k, (((St.without ⟨m, S.g⟩ bv[t]).set nid (some (.arr 1 (R[t].map encI ++ [encI x])))).set 13 (some (.arr 1 (bv.set t (.own nid 0 (R[t].length + 1)))))).g⟩ := by
  have hn := h.n
  have hav : ∀ j, j ∈ [0, 1, 15] → (((St.without ⟨m, S.g⟩ bv[t]).set nid (some (.arr 1 (R[t].map encI ++ [encI x])))).set 13 (some (.arr 1 (bv.set t (.own nid 0 (R[t].length + 1)))))).g j = S.g j := by
    intro j hj
    have hne : j ≠ 13 := by intro e; subst e; simp at hj
    have hne2 : j ≠ nid := by intro e; subst e; simp at hj; omega
    rw [Z4e, if_neg hne]
    exact rows.av (t := t + 1) (by simpa using ht) _ (by simp at hj ⊢; omega) hne2
  refine ⟨by rw [hf _ (by simp)]; exact h.e1, by rw [hf _ (by simp)]; exact h.e2, by rw [hf _ (by simp)]; exact h.e4, ?_, ?_, ⟨LV, bv.set t (.own nid 0 (R[t].length + 1)), ?_, by simp [Z4e], ?_⟩, by show 16 ≤ k; omega⟩
  · rw [← h.g0]; exact hav 0 (by simp)
  · rw [← h.g1]; exact hav 1 (by simp)
  · rw [← g15]; exact hav 15 (by simp)
  · have h4 := rows.app (t := t + 1) (m := m) (nid := nid) (by simpa using ht) (by simpa using ht') x h1 h2 (by simp; omega)
    simp only [List.getElem_cons_succ, List.set_cons_succ] at h4
    refine h4.frame (by show m ≤ k; exact h3) (fun i _ hi => ?_)
    rw [Z4e, if_neg (by intro e; subst e; simp at hi)]
end Go.Rf


/- Own work: what the net the other way round accepts. -/
set_option linter.unusedVariables false
set_option linter.unusedSimpArgs false
namespace Go.Rf
open Go.RowKit

theorem follow_getD {n : Net} {i : Nat} (h : i < n.follow.length) : n.follow.getD i [] = n.follow[i] := by
  rw [List.getD_eq_getElem?_getD, List.getElem?_eq_getElem h]; rfl
/-! ### what they accept -/
def edgeN (n : Net) (p q s : Int) : Prop := 0 ≤ p ∧ p < n.follow.length ∧ q ∈ n.follow.getD p.toNat [] ∧ behS n s q = true
theorem mem_stepN {n : Net} {a : List Int} {s q : Int} : q ∈ stepN n a s ↔ ∃ p ∈ a, edgeN n p q s := by
  unfold stepN behindL behind1 edgeN
  rw [mem_setF, List.mem_flatMap]
  constructor
  · rintro ⟨p, hp, h⟩
    split at h
    · rename_i hb
      have := List.mem_filter.mp h
      exact ⟨p, hp, hb.1, hb.2, this.1, this.2⟩
    · simp at h
  · rintro ⟨p, hp, h1, h2, h3, h4⟩
    exact ⟨p, hp, by rw [if_pos ⟨h1, h2⟩]; exact List.mem_filter.mpr ⟨h3, h4⟩⟩
def AccF (n : Net) : Int → List Int → Prop
  | p, [] => p ∈ n.last
  | p, s :: l => ∃ q, edgeN n p q s ∧ AccF n q l
theorem acc_fold {n : Net} : ∀ (l a : List Int), (∃ q ∈ l.foldl (stepN n) a, q ∈ n.last) ↔ ∃ p ∈ a, AccF n p l
  | [], a => Iff.rfl
  | s :: l, a => by
    rw [List.foldl_cons, acc_fold l (stepN n a s)]
    constructor
    · rintro ⟨q, h1, h2⟩
      obtain ⟨p, h3, h4⟩ := mem_stepN.mp h1
      exact ⟨p, h3, q, h4, h2⟩
    · rintro ⟨p, h3, q, h4, h2⟩
      exact ⟨q, mem_stepN.mpr ⟨p, h3, h4⟩, h2⟩
theorem accN_iff {n : Net} {l : List Int} : accN n l = true ↔ rightN n = true ∧ AccF n 0 l := by
  unfold accN runN
  rw [Bool.and_eq_true, List.any_eq_true]
  refine and_congr_right (fun _ => ?_)
  have := acc_fold (n := n) l [0]
  simp only [List.mem_singleton, exists_eq_left] at this
  rw [← this]
  constructor
  · rintro ⟨q, h1, h2⟩; exact ⟨q, h1, by simpa using h2⟩
  · rintro ⟨q, h1, h2⟩; exact ⟨q, h1, by simpa using h2⟩
end Go.Rf


/- Own work: a net that is made of a form accepts what the form matches (plain law). -/
set_option linter.unusedVariables false
set_option linter.unusedSimpArgs false
namespace Go.Rf
open Go.RowKit
/-- A net's lists are a form's ends, and what stands behind what. -/
structure NetOf (n : Net) (E : GE) : Prop where
  R : RightN n
  inn : In E 1 n.by_.length
  f0 : ∀ t : Nat, (t : Int) ∈ n.follow.getD 0 [] ↔ E.fst t
  fs : ∀ s t : Nat, 1 ≤ s → ((t : Int) ∈ n.follow.getD s [] ↔ E.fol s t)
  l0 : (0 : Int) ∈ n.last ↔ E.nul
  ls : ∀ s : Nat, 1 ≤ s → ((s : Int) ∈ n.last ↔ E.lst s)
def sgT (n : Net) (l : List Int) (s : Nat) (a b : Int) : Prop := stp l (n.by_.getD s []) a b
theorem sgT_at {n : Net} {l : List Int} {i q : Nat} (h : i < l.length) {m : Int} : sgT n l q i m ↔ m = (i : Int) + 1 ∧ behS n l[i] q = true := by
  unfold sgT stp behS
  have hg : l.getD i 0 = l[i] := by rw [List.getD_eq_getElem?_getD, List.getElem?_eq_getElem h]; rfl
  rw [Int.toNat_natCast, Int.toNat_natCast, hg]
  constructor
  · rintro ⟨h1, h2, h3, h4⟩; exact ⟨h1, by simpa using h4⟩
  · rintro ⟨h1, h2⟩; exact ⟨h1, by omega, by omega, by simpa using h2⟩
theorem edge_st {n : Net} {E : GE} (h : NetOf n E) {p : Nat} {q : Int} {s : Int} (hp : p < n.by_.length) : edgeN n p q s ↔ ∃ t : Nat, q = t ∧ (if p = 0 then E.fst t else E.fol p t) ∧ behS n s t = true := by
  unfold edgeN
  rw [Int.toNat_natCast]
  constructor
  · rintro ⟨h1, h2, h3, h4⟩
    have hq : 0 ≤ q := by
      rw [follow_getD (by omega)] at h3
      have := (h.R.follow p (by omega)).2 q h3; omega
    have e : ((q.toNat : Nat) : Int) = q := by omega
    refine ⟨q.toNat, e.symm, ?_, by rw [e]; exact h4⟩
    rw [← e] at h3
    split
    · rename_i hp0; subst hp0; exact (h.f0 _).mp h3
    · exact (h.fs p _ (by omega)).mp h3
  · rintro ⟨t, rfl, h1, h2⟩
    refine ⟨by omega, by rw [h.R.len]; omega, ?_, h2⟩
    split at h1
    · rename_i hp0; subst hp0; exact (h.f0 _).mpr h1
    · exact (h.fs p _ (by omega)).mpr h1
theorem accF_rn {n : Net} {E : GE} (h : NetOf n E) {l : List Int} : ∀ (k i t : Nat), i + k = l.length → 1 ≤ t → t < n.by_.length → (AccF n t (l.drop i) ↔ ∃ u, Rn (sgT n l) E.fol t i u l.length ∧ E.lst u)
  | 0, i, t, hk, h1, h2 => by
    rw [List.drop_eq_nil_of_le (by omega)]
    have hi : i = l.length := by omega
    subst hi
    show (t : Int) ∈ n.last ↔ _
    rw [h.ls t h1]
    constructor
    · intro hl; exact ⟨t, .refl _ _, hl⟩
    · rintro ⟨u, hr, hl⟩
      cases hr with
      | refl => exact hl
      | step _ q _ _ m _ hf hT hr =>
        obtain ⟨_, _, h4, _⟩ := hT
        omega
  | k + 1, i, t, hk, h1, h2 => by
    have hi : i < l.length := by omega
    rw [List.drop_eq_getElem_cons hi]
    show (∃ q, edgeN n t q l[i] ∧ AccF n q (l.drop (i + 1))) ↔ _
    constructor
    · rintro ⟨q, he, ha⟩
      obtain ⟨q', rfl, hf, hb⟩ := (edge_st h h2).mp he
      rw [if_neg (by omega)] at hf
      obtain ⟨_, hq1, hq2⟩ := h.inn.fol t q' hf
      obtain ⟨u, hr, hl⟩ := (accF_rn h k (i + 1) q' (by omega) hq1 hq2).mp ha
      exact ⟨u, .step _ _ _ _ _ _ hf ((sgT_at hi).mpr ⟨rfl, hb⟩) (by rw [Int.natCast_add, Int.natCast_one] at hr; exact hr), hl⟩
    · rintro ⟨u, hr, hl⟩
      generalize hL : (l.length : Int) = L at hr
      cases hr with
      | refl => omega
      | step _ q' _ _ m _ hf hT hr =>
        subst hL
        obtain ⟨rfl, hb⟩ := (sgT_at hi).mp hT
        obtain ⟨_, hq1, hq2⟩ := h.inn.fol t q' hf
        refine ⟨q', (edge_st h h2).mpr ⟨q', rfl, by rw [if_neg (by omega)]; exact hf, hb⟩, (accF_rn h k (i + 1) q' (by omega) hq1 hq2).mpr ⟨u, ?_, hl⟩⟩
        rw [Int.natCast_add, Int.natCast_one]; exact hr
theorem acc_net {n : Net} {E : GE} (h : NetOf n E) (l : List Int) : accN n l = true ↔ Acc (sgT n l) E 0 l.length := by
  have hR : rightN n = true := (rightN_iff n).mpr h.R
  have hn1 := h.R.n1
  rw [accN_iff]
  simp only [hR, true_and]
  cases l with
  | nil =>
    show (0 : Int) ∈ n.last ↔ _
    rw [h.l0]
    constructor
    · intro hn; exact .inl ⟨hn, rfl⟩
    · rintro (⟨hn, _⟩ | ⟨s, m, t, hf, hT, hr, hl⟩)
      · exact hn
      · obtain ⟨_, _, h4, _⟩ := hT
        simp at h4
  | cons s l =>
    have hi : 0 < (s :: l).length := by simp
    show (∃ q, edgeN n 0 q s ∧ AccF n q l) ↔ _
    constructor
    · rintro ⟨q, he, ha⟩
      obtain ⟨q', rfl, hf, hb⟩ := (edge_st h (p := 0) (by omega)).mp he
      rw [if_pos rfl] at hf
      obtain ⟨hq1, hq2⟩ := h.inn.fst q' hf
      obtain ⟨u, hr, hl⟩ := (accF_rn h (l := s :: l) l.length 1 q' (by simp; omega) hq1 hq2).mp ha
      exact .inr ⟨q', 1, u, hf, (sgT_at (i := 0) hi).mpr ⟨rfl, hb⟩, hr, hl⟩
    · rintro (⟨_, hn⟩ | ⟨q', m, u, hf, hT, hr, hl⟩)
      · simp at hn; omega
      · obtain ⟨rfl, hb⟩ := (sgT_at (i := 0) hi).mp hT
        obtain ⟨hq1, hq2⟩ := h.inn.fst q' hf
        refine ⟨q', (edge_st h (p := 0) (by omega)).mpr ⟨q', rfl, by rw [if_pos rfl]; exact hf, hb⟩, ?_⟩
        exact (accF_rn h (l := s :: l) l.length 1 q' (by simp; omega) hq1 hq2).mpr ⟨u, hr, hl⟩
end Go.Rf

