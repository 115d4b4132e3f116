import Derived.Test.YtgehkmifnjldfaaRfQ7
import Derived.Test.YtgehkmifnjldfaaRfK8
/- Own work: a form's ends, and what stands behind what; its paths match what it matches (plain law). -/
set_option linter.unusedVariables false
namespace Go.Rf
open Go.RowKit
section
variable {T : Nat → Int → Int → Prop}
theorem Acc.mono {E G : GE} (hn : E.nul → G.nul) (h1 : ∀ s, E.fst s → G.fst s) (h2 : ∀ s, E.lst s → G.lst s) (h3 : ∀ s t, E.fol s t → G.fol s t) {a e : Int} (h : Acc T E a e) : Acc T G a e := by
  rcases h with ⟨h, rfl⟩ | ⟨s, m, t, hf, hT, hr, hl⟩
  · exact .inl ⟨hn h, rfl⟩
  · exact .inr ⟨s, m, t, h1 s hf, hT, hr.mono h3, h2 t hl⟩
theorem acc_maybe {E : GE} {a e : Int} : Acc T (maybeE E) a e ↔ a = e ∨ Acc T E a e := by
  constructor
  · rintro (⟨_, rfl⟩ | h)
    · exact .inl rfl
    · exact .inr (.inr h)
  · rintro (rfl | h)
    · exact .inl ⟨trivial, rfl⟩
    · exact Acc.mono (E := E) (G := maybeE E) (fun _ => trivial) (fun _ x => x) (fun _ x => x) (fun _ _ x => x) h
theorem plus_run {E : GE} {s t : Nat} {m e : Int} (r : Rn T (fun s t => E.fol s t ∨ (E.lst s ∧ E.fst t)) s m t e) (hl : E.lst t) : ∀ {a : Int} {s0 : Nat} {m0 : Int}, E.fst s0 → T s0 a m0 → Rn T E.fol s0 m0 s m → Clo (Acc T E) a e := by
  induction r with
  | refl s m => intro a s0 m0 h0 hT hr; exact .one (.inr ⟨s0, m0, s, h0, hT, hr, hl⟩)
  | step s t u m m2 e hf kk r ih =>
    intro a s0 m0 h0 hT hr
    rcases hf with hf | ⟨h1, h2⟩
    · exact ih hl h0 hT (hr.trans (.step _ _ _ _ _ _ hf kk (.refl _ _)))
    · exact (Clo.one (.inr ⟨s0, m0, s, h0, hT, hr, h1⟩)).trans (ih hl h2 kk (.refl _ _))
theorem acc_plus {E : GE} {n : Prop} {a e : Int} : Acc T (plusE E n) a e ↔ (n ∧ a = e) ∨ Clo (Acc T E) a e := by
  constructor
  · rintro (⟨h | h, rfl⟩ | ⟨s, m, t, hf, hT, hr, hl⟩)
    · exact .inr (.one (.inl ⟨h, rfl⟩))
    · exact .inl ⟨h, rfl⟩
    · exact .inr (plus_run hr hl hf hT (.refl _ _))
  · rintro (⟨h, rfl⟩ | h)
    · exact .inl ⟨.inr h, rfl⟩
    · have up : ∀ {a e : Int}, Acc T E a e → Acc T (plusE E n) a e := fun h => Acc.mono (E := E) (G := plusE E n) (fun x => .inl x) (fun _ x => x) (fun _ x => x) (fun _ _ x => .inl x) h
      induction h with
      | one h => exact up h
      | more h k ih =>
        rcases ih with ⟨_, rfl⟩ | ⟨s, m, t, hf, hT, hr, hl⟩
        · exact up k
        · rcases k with ⟨_, rfl⟩ | ⟨s2, m2, t2, hf2, hT2, hr2, hl2⟩
          · exact .inr ⟨s, m, t, hf, hT, hr, hl⟩
          · exact .inr ⟨s, m, t2, hf, hT, hr.trans (.step _ _ _ _ _ _ (.inr ⟨hl, hf2⟩) hT2 (hr2.mono fun _ _ x => .inl x)), hl2⟩
end
mutual
/-- How many places a form has. -/
def cntP : Pat → Nat
  | .mk k _ _ ks => if k = 1 then 0 else if k = 2 then 1 else cntL ks
def cntL : List Pat → Nat
  | [] => 0
  | q :: qs => cntP q + cntL qs
end
def noE : GE := ⟨False, fun _ => False, fun _ => False, fun _ _ => False⟩
def nilE : GE := ⟨True, fun _ => False, fun _ => False, fun _ _ => False⟩
def oneE (b : Nat) : GE := ⟨False, fun s => s = b, fun s => s = b, fun _ _ => False⟩
mutual
def geP : Pat → Nat → GE
  | .mk k _ _ ks, b => if k = 1 then nilE else if k = 2 then oneE b else if k = 3 then geA ks b else if k = 4 then geO ks b else ⟨(geG ks k b).nul, (geG ks k b).fst, (geG ks k b).lst, fun s t => (geG ks k b).fol s t ∨ geW ks b s t⟩
def geA : List Pat → Nat → GE
  | [], _ => nilE
  | q :: qs, b => catE (geP q b) (geA qs (b + cntP q))
def geO : List Pat → Nat → GE
  | [], _ => noE
  | q :: qs, b => altE (geP q b) (geO qs (b + cntP q))
def geG : List Pat → Int → Nat → GE
  | [q], k, b => if k = 7 then maybeE (geP q b) else if k = 5 ∨ k = 6 then plusE (geP q b) (k ≠ 6) else noE
  | _, _, _ => noE
/-- What stands behind what in forms' inside. -/
def geW : List Pat → Nat → Nat → Nat → Prop
  | [], _, _, _ => False
  | q :: qs, b, s, t => (geP q b).fol s t ∨ geW qs (b + cntP q) s t
end
mutual
theorem in_P : ∀ (p : Pat) (b : Nat), In (geP p b) b (b + cntP p)
  | .mk k r g ks, b => by
    simp only [geP, cntP]
    split
    · exact ⟨fun s hs => hs.elim, fun s hs => hs.elim, fun s t hs => hs.elim⟩
    · split
      · exact ⟨fun s hs => by have : s = b := hs; omega, fun s hs => by have : s = b := hs; omega, fun s t hs => hs.elim⟩
      · split
        · exact in_A ks b
        · split
          · exact in_O ks b
          · have h := in_G ks k b
            refine ⟨h.fst, h.lst, fun s t hs => ?_⟩
            rcases hs with hs | hs
            · exact h.fol s t hs
            · exact in_W ks b s t hs
theorem in_A : ∀ (ks : List Pat) (b : Nat), In (geA ks b) b (b + cntL ks)
  | [], b => by
    simp only [geA]
    exact ⟨fun s hs => hs.elim, fun s hs => hs.elim, fun s t hs => hs.elim⟩
  | q :: qs, b => by
    simp only [geA, cntL]
    have := (in_P q b).cat (in_A qs (b + cntP q)) (by omega) (by omega)
    rwa [Nat.add_assoc] at this
theorem in_O : ∀ (ks : List Pat) (b : Nat), In (geO ks b) b (b + cntL ks)
  | [], b => by
    simp only [geO]
    exact ⟨fun s hs => hs.elim, fun s hs => hs.elim, fun s t hs => hs.elim⟩
  | q :: qs, b => by
    simp only [geO, cntL]
    have := (in_P q b).alt (in_O qs (b + cntP q)) (by omega) (by omega)
    rwa [Nat.add_assoc] at this
theorem in_G : ∀ (ks : List Pat) (k : Int) (b : Nat), In (geG ks k b) b (b + cntL ks)
  | [], k, b => by
    simp only [geG]
    exact ⟨fun s hs => hs.elim, fun s hs => hs.elim, fun s t hs => hs.elim⟩
  | [q], k, b => by
    have h := in_P q b
    simp only [geG, cntL, Nat.add_zero]
    split
    · exact ⟨h.fst, h.lst, h.fol⟩
    · split
      · exact h.plus _
      · exact ⟨fun s hs => hs.elim, fun s hs => hs.elim, fun s t hs => hs.elim⟩
  | _ :: _ :: _, k, b => by
    simp only [geG]
    exact ⟨fun s hs => hs.elim, fun s hs => hs.elim, fun s t hs => hs.elim⟩
theorem in_W : ∀ (ks : List Pat) (b s t : Nat), geW ks b s t → (b ≤ s ∧ s < b + cntL ks) ∧ b ≤ t ∧ t < b + cntL ks
  | [], b, s, t, h => by simp only [geW] at h
  | q :: qs, b, s, t, h => by
    simp only [geW] at h
    simp only [cntL]
    rcases h with h | h
    · have := (in_P q b).fol s t h; omega
    · have := in_W qs (b + cntP q) s t h; omega
end
mutual
/-- The places' signs are the form's. -/
def LfP (T : Nat → Int → Int → Prop) (S : List Int → Int → Int → Prop) : Pat → Nat → Prop
  | .mk k _ g ks, b => (k = 2 → ∀ a e, T b a e ↔ S g a e) ∧ (k ≠ 1 → k ≠ 2 → LfL T S ks b)
def LfL (T : Nat → Int → Int → Prop) (S : List Int → Int → Int → Prop) : List Pat → Nat → Prop
  | [], _ => True
  | q :: qs, b => LfP T S q b ∧ LfL T S qs (b + cntP q)
end
section
variable {T : Nat → Int → Int → Prop} {S : List Int → Int → Int → Prop}
theorem acc_nil {a e : Int} : Acc T nilE a e ↔ a = e := ⟨fun h => h.elim (fun h => h.2) (fun ⟨_, _, _, h, _⟩ => h.elim), fun h => .inl ⟨trivial, h⟩⟩
theorem acc_no {a e : Int} : Acc T noE a e ↔ False := ⟨fun h => h.elim (fun h => h.1) (fun ⟨_, _, _, h, _⟩ => h.elim), False.elim⟩
theorem acc_one {b : Nat} {a e : Int} : Acc T (oneE b) a e ↔ T b a e := by
  constructor
  · rintro (⟨h, _⟩ | ⟨s, m, t, rfl, hT, hr, rfl⟩)
    · exact h.elim
    · cases hr with
      | refl => exact hT
      | step _ _ _ _ _ _ h => exact h.elim
  · intro h
    exact .inr ⟨b, e, b, rfl, h, .refl _ _, rfl⟩
theorem clo_congr {r q : Int → Int → Prop} (h : ∀ a b, r a b ↔ q a b) {a b : Int} : Clo r a b ↔ Clo q a b := by
  have : r = q := funext fun a => funext fun b => propext (h a b)
  rw [this]
mutual
theorem acc_P : ∀ (p : Pat) (b : Nat), LfP T S p b → ∀ a e, Acc T (geP p b) a e ↔ MR S p a e
  | .mk k r g ks, b, h, a, e => by
    simp only [LfP] at h
    simp only [geP, MR]
    by_cases h1 : k = 1
    · rw [if_pos h1, if_pos h1]; exact acc_nil
    rw [if_neg h1, if_neg h1]
    by_cases h2 : k = 2
    · rw [if_pos h2, if_pos h2, acc_one]; exact h.1 h2 a e
    rw [if_neg h2, if_neg h2]
    have hL := h.2 h1 h2
    by_cases h3 : k = 3
    · rw [if_pos h3, if_pos h3]; exact acc_A ks b hL a e
    rw [if_neg h3, if_neg h3]
    by_cases h4 : k = 4
    · rw [if_pos h4, if_pos h4]; exact acc_O ks b hL a e
    rw [if_neg h4, if_neg h4]
    exact acc_G ks k b hL a e
theorem acc_A : ∀ (ks : List Pat) (b : Nat), LfL T S ks b → ∀ a e, Acc T (geA ks b) a e ↔ MA S ks a e
  | [], b, h, a, e => by simp only [geA, MA]; exact acc_nil
  | q :: qs, b, h, a, e => by
    simp only [LfL] at h
    simp only [geA, MA]
    rw [acc_cat (in_P q b) (in_A qs (b + cntP q))]
    exact ⟨fun ⟨m, h1, h2⟩ => ⟨m, (acc_P q b h.1 a m).mp h1, (acc_A qs _ h.2 m e).mp h2⟩, fun ⟨m, h1, h2⟩ => ⟨m, (acc_P q b h.1 a m).mpr h1, (acc_A qs _ h.2 m e).mpr h2⟩⟩
theorem acc_O : ∀ (ks : List Pat) (b : Nat), LfL T S ks b → ∀ a e, Acc T (geO ks b) a e ↔ MO S ks a e
  | [], b, h, a, e => by simp only [geO, MO]; exact acc_no
  | q :: qs, b, h, a, e => by
    simp only [LfL] at h
    simp only [geO, MO]
    rw [acc_alt (in_P q b) (in_O qs (b + cntP q)), acc_P q b h.1 a e, acc_O qs _ h.2 a e]
theorem acc_G : ∀ (ks : List Pat) (k : Int) (b : Nat), LfL T S ks b → ∀ a e, Acc T ⟨(geG ks k b).nul, (geG ks k b).fst, (geG ks k b).lst, fun s t => (geG ks k b).fol s t ∨ geW ks b s t⟩ a e ↔ (if k = 7 ∨ k = 5 ∨ k = 6 then MG S ks k a e else False)
  | [], k, b, h, a, e => by
    simp only [geG, MG]
    have : Acc T ⟨noE.nul, noE.fst, noE.lst, fun s t => noE.fol s t ∨ geW [] b s t⟩ a e ↔ False := ⟨fun h => h.elim (fun h => h.1) (fun ⟨_, _, _, h, _⟩ => h.elim), False.elim⟩
    rw [this]; split <;> rfl
  | [q], k, b, h, a, e => by
    simp only [LfL] at h
    have hq := acc_P q b h.1
    have hW : ∀ s t, geW [q] b s t ↔ (geP q b).fol s t := fun s t => by simp only [geW]; exact ⟨fun h => h.elim id False.elim, .inl⟩
    by_cases h7 : k = 7
    · have hg : geG [q] k b = maybeE (geP q b) := by simp only [geG]; rw [if_pos h7]
      rw [if_pos (.inl h7), hg]
      have e1 : (fun s t => (maybeE (geP q b)).fol s t ∨ geW [q] b s t) = (maybeE (geP q b)).fol := funext fun s => funext fun t => propext ⟨fun h => h.elim id (hW s t).mp, .inl⟩
      rw [e1]
      show Acc T (maybeE (geP q b)) a e ↔ _
      rw [acc_maybe, hq a e]
      simp only [MG]
      rw [if_pos h7]
      have : k ≠ 6 := by omega
      exact ⟨fun h => h.elim (fun h => .inl ⟨this, h⟩) .inr, fun h => h.elim (fun h => .inl h.2) .inr⟩
    · by_cases h56 : k = 5 ∨ k = 6
      · have hg : geG [q] k b = plusE (geP q b) (k ≠ 6) := by simp only [geG]; rw [if_neg h7, if_pos h56]
        rw [if_pos (.inr h56), hg]
        have e1 : (fun s t => (plusE (geP q b) (k ≠ 6)).fol s t ∨ geW [q] b s t) = (plusE (geP q b) (k ≠ 6)).fol := funext fun s => funext fun t => propext ⟨fun h => h.elim id (fun h => .inl ((hW s t).mp h)), .inl⟩
        rw [e1]
        show Acc T (plusE (geP q b) (k ≠ 6)) a e ↔ _
        rw [acc_plus]
        simp only [MG]
        rw [if_neg h7, clo_congr hq]
      · have hg : geG [q] k b = noE := by simp only [geG]; rw [if_neg h7, if_neg h56]
        rw [if_neg (by omega), hg]
        exact ⟨fun h => h.elim (fun h => h.1) (fun ⟨_, _, _, h, _⟩ => h.elim), False.elim⟩
  | p :: q :: r, k, b, h, a, e => by
    simp only [geG, MG]
    have : Acc T ⟨noE.nul, noE.fst, noE.lst, fun s t => noE.fol s t ∨ geW (p :: q :: r) b s t⟩ a e ↔ False := ⟨fun h => h.elim (fun h => h.1) (fun ⟨_, _, _, h, _⟩ => h.elim), False.elim⟩
    rw [this]; split <;> rfl
end
end
end Go.Rf


/- Own work: a net that is made of a form accepts what the form matches (plain law). -/
set_option linter.unusedVariables false
set_option linter.unusedSimpArgs false
namespace Go.Rf
open Go.RowKit
/-- A net's lists are a form's ends, and what stands behind what. -/
structure NetOf (n : Net) (E : GE) : Prop where
  R : RightN n
  inn : In E 1 n.by_.length
  f0 : ∀ t : Nat, (t : Int) ∈ n.follow.getD 0 [] ↔ E.fst t
  fs : ∀ s t : Nat, 1 ≤ s → ((t : Int) ∈ n.follow.getD s [] ↔ E.fol s t)
  l0 : (0 : Int) ∈ n.last ↔ E.nul
  ls : ∀ s : Nat, 1 ≤ s → ((s : Int) ∈ n.last ↔ E.lst s)
def sgT (n : Net) (l : List Int) (s : Nat) (a b : Int) : Prop := stp l (n.by_.getD s []) a b
theorem sgT_at {n : Net} {l : List Int} {i q : Nat} (h : i < l.length) {m : Int} : sgT n l q i m ↔ m = (i : Int) + 1 ∧ behS n l[i] q = true := by
  unfold sgT stp behS
  have hg : l.getD i 0 = l[i] := by rw [List.getD_eq_getElem?_getD, List.getElem?_eq_getElem h]; rfl
  rw [Int.toNat_natCast, Int.toNat_natCast, hg]
  constructor
  · rintro ⟨h1, h2, h3, h4⟩; exact ⟨h1, by simpa using h4⟩
  · rintro ⟨h1, h2⟩; exact ⟨h1, by omega, by omega, by simpa using h2⟩
theorem edge_st {n : Net} {E : GE} (h : NetOf n E) {p : Nat} {q : Int} {s : Int} (hp : p < n.by_.length) : edgeN n p q s ↔ ∃ t : Nat, q = t ∧ (if p = 0 then E.fst t else E.fol p t) ∧ behS n s t = true := by
  unfold edgeN
  rw [Int.toNat_natCast]
  constructor
  · rintro ⟨h1, h2, h3, h4⟩
    have hq : 0 ≤ q := by
      rw [follow_getD (by omega)] at h3
      have := (h.R.follow p (by omega)).2 q h3; omega
    have e : ((q.toNat : Nat) : Int) = q := by omega
    refine ⟨q.toNat, e.symm, ?_, by rw [e]; exact h4⟩
    rw [← e] at h3
    split
    · rename_i hp0; subst hp0; exact (h.f0 _).mp h3
    · exact (h.fs p _ (by omega)).mp h3
  · rintro ⟨t, rfl, h1, h2⟩
    refine ⟨by omega, by rw [h.R.len]; omega, ?_, h2⟩
    split at h1
    · rename_i hp0; subst hp0; exact (h.f0 _).mpr h1
    · exact (h.fs p _ (by omega)).mpr h1
theorem accF_rn {n : Net} {E : GE} (h : NetOf n E) {l : List Int} : ∀ (k i t : Nat), i + k = l.length → 1 ≤ t → t < n.by_.length → (AccF n t (l.drop i) ↔ ∃ u, Rn (sgT n l) E.fol t i u l.length ∧ E.lst u)
  | 0, i, t, hk, h1, h2 => by
    rw [List.drop_eq_nil_of_le (by omega)]
    have hi : i = l.length := by omega
    subst hi
    show (t : Int) ∈ n.last ↔ _
    rw [h.ls t h1]
    constructor
    · intro hl; exact ⟨t, .refl _ _, hl⟩
    · rintro ⟨u, hr, hl⟩
      cases hr with
      | refl => exact hl
      | step _ q _ _ m _ hf hT hr =>
        obtain ⟨_, _, h4, _⟩ := hT
        omega
  | k + 1, i, t, hk, h1, h2 => by
    have hi : i < l.length := by omega
    rw [List.drop_eq_getElem_cons hi]
    show (∃ q, edgeN n t q l[i] ∧ AccF n q (l.drop (i + 1))) ↔ _
    constructor
    · rintro ⟨q, he, ha⟩
      obtain ⟨q', rfl, hf, hb⟩ := (edge_st h h2).mp he
      rw [if_neg (by omega)] at hf
      obtain ⟨_, hq1, hq2⟩ := h.inn.fol t q' hf
      obtain ⟨u, hr, hl⟩ := (accF_rn h k (i + 1) q' (by omega) hq1 hq2).mp ha
      exact ⟨u, .step _ _ _ _ _ _ hf ((sgT_at hi).mpr ⟨rfl, hb⟩) (by rw [Int.natCast_add, Int.natCast_one] at hr; exact hr), hl⟩
    · rintro ⟨u, hr, hl⟩
      generalize hL : (l.length : Int) = L at hr
      cases hr with
      | refl => omega
      | step _ q' _ _ m _ hf hT hr =>
        subst hL
        obtain ⟨rfl, hb⟩ := (sgT_at hi).mp hT
        obtain ⟨_, hq1, hq2⟩ := h.inn.fol t q' hf
        refine ⟨q', (edge_st h h2).mpr ⟨q', rfl, by rw [if_neg (by omega)]; exact hf, hb⟩, (accF_rn h k (i + 1) q' (by omega) hq1 hq2).mpr ⟨u, ?_, hl⟩⟩
        rw [Int.natCast_add, Int.natCast_one]; exact hr
theorem acc_net {n : Net} {E : GE} (h : NetOf n E) (l : List Int) : accN n l = true ↔ Acc (sgT n l) E 0 l.length := by
  have hR : rightN n = true := (rightN_iff n).mpr h.R
  have hn1 := h.R.n1
  rw [accN_iff]
  simp only [hR, true_and]
  cases l with
  | nil =>
    show (0 : Int) ∈ n.last ↔ _
    rw [h.l0]
    constructor
    · intro hn; exact .inl ⟨hn, rfl⟩
    · rintro (⟨hn, _⟩ | ⟨s, m, t, hf, hT, hr, hl⟩)
      · exact hn
      · obtain ⟨_, _, h4, _⟩ := hT
        simp at h4
  | cons s l =>
    have hi : 0 < (s :: l).length := by simp
    show (∃ q, edgeN n 0 q s ∧ AccF n q l) ↔ _
    constructor
    · rintro ⟨q, he, ha⟩
      obtain ⟨q', rfl, hf, hb⟩ := (edge_st h (p := 0) (by omega)).mp he
      rw [if_pos rfl] at hf
      obtain ⟨hq1, hq2⟩ := h.inn.fst q' hf
      obtain ⟨u, hr, hl⟩ := (accF_rn h (l := s :: l) l.length 1 q' (by simp; omega) hq1 hq2).mp ha
      exact .inr ⟨q', 1, u, hf, (sgT_at (i := 0) hi).mpr ⟨rfl, hb⟩, hr, hl⟩
    · rintro (⟨_, hn⟩ | ⟨q', m, u, hf, hT, hr, hl⟩)
      · simp at hn; omega
      · obtain ⟨rfl, hb⟩ := (sgT_at (i := 0) hi).mp hT
        obtain ⟨hq1, hq2⟩ := h.inn.fst q' hf
        refine ⟨q', (edge_st h (p := 0) (by omega)).mpr ⟨q', rfl, by rw [if_pos rfl]; exact hf, hb⟩, ?_⟩
        exact (accF_rn h (l := s :: l) l.length 1 q' (by simp; omega) hq1 hq2).mpr ⟨u, hr, hl⟩
end Go.Rf


/- Own work: how net.go lays a form's net, as plain functions; they lay its ends (plain law). -/
set_option linter.unusedVariables false
set_option linter.unusedSimpArgs false
namespace Go.Rf
open Go.RowKit
structure Gs where
  by_ : List (List Int)
  fo : List (List Int)
structure Ed where
  nul : Bool
  fst : List Int
  lst : List Int
def folF (fo : List (List Int)) : List Int → List Int → List (List Int)
  | [], _ => fo
  | s :: ss, be => folF (fo.set s.toNat (setF (fo.getD s.toNat [] ++ be))) ss be
def gjoin : List Ed → Ed → Gs → Ed × Gs
  | [], all, st => (all, st)
  | e :: es, all, st => gjoin es ⟨all.nul && e.nul, if all.nul = true then setF (all.fst ++ e.fst) else all.fst, setF ((if e.nul = true then all.lst else []) ++ e.lst)⟩ ⟨st.by_, folF st.fo all.lst e.fst⟩
def geither : List Ed → Ed → Ed
  | [], all => all
  | e :: es, all => geither es ⟨all.nul || e.nul, setF (all.fst ++ e.fst), setF (all.lst ++ e.lst)⟩
def gone : List Ed → Int → Gs → Ed × Gs
  | [e], k, st => if 5 ≤ k ∧ k ≤ 7 then (⟨e.nul || decide (k ≠ 6), e.fst, e.lst⟩, if k = 7 then st else ⟨st.by_, folF st.fo e.lst e.fst⟩) else (⟨false, [], []⟩, st)
  | _, _, st => (⟨false, [], []⟩, st)
def leafF (sg : Int) (g : List Int) : List Int := setF (g.filter fun n => decide (0 ≤ n) && decide (n < sg))
mutual
def gform (sg : Int) : Pat → Gs → Ed × Gs
  | .mk k _ g ks, st => if k = 1 then (⟨true, [], []⟩, st) else if k = 2 then (⟨false, [(st.by_.length : Int)], [(st.by_.length : Int)]⟩, ⟨st.by_ ++ [leafF sg g], st.fo ++ [[]]⟩)
    else if k = 3 then gjoin (geach sg ks st).1 ⟨true, [], []⟩ (geach sg ks st).2 else if k = 4 then (geither (geach sg ks st).1 ⟨false, [], []⟩, (geach sg ks st).2) else gone (geach sg ks st).1 k (geach sg ks st).2
def geach (sg : Int) : List Pat → Gs → List Ed × Gs
  | [], st => ([], st)
  | q :: qs, st => ((gform sg q st).1 :: (geach sg qs (gform sg q st).2).1, (geach sg qs (gform sg q st).2).2)
end
/-- What stands behind what, in the lists. -/
def FoR (fo : List (List Int)) (s t : Nat) : Prop := (t : Int) ∈ fo.getD s []
/-- Each list rises, of what is not below 0. -/
def Up (l : List Int) : Prop := l.Pairwise (· < ·) ∧ ∀ x ∈ l, 0 ≤ x
structure EdOk (e : Ed) (E : GE) : Prop where
  nul : e.nul = true ↔ E.nul
  fst : ∀ t : Nat, (t : Int) ∈ e.fst ↔ E.fst t
  lst : ∀ t : Nat, (t : Int) ∈ e.lst ↔ E.lst t
  uf : Up e.fst
  ul : Up e.lst
theorem up_nil : Up [] := ⟨by simp, by simp⟩
theorem up_one (n : Nat) : Up [(n : Int)] := ⟨by simp, fun x hx => by simp at hx; omega⟩
theorem up_set {a b : List Int} (ha : ∀ x ∈ a, 0 ≤ x) (hb : ∀ x ∈ b, 0 ≤ x) : Up (setF (a ++ b)) :=
  ⟨setF_pw _, fun x hx => (List.mem_append.mp (mem_setF.mp hx)).elim (ha x) (hb x)⟩
theorem folF_len : ∀ (ss : List Int) (fo : List (List Int)) (be : List Int), (folF fo ss be).length = fo.length
  | [], fo, be => rfl
  | s :: ss, fo, be => by rw [folF, folF_len ss]; simp
theorem folF_mem : ∀ (ss : List Int) (fo : List (List Int)) (be : List Int), (∀ x ∈ ss, 0 ≤ x) → ∀ s t : Nat, FoR (folF fo ss be) s t ↔ FoR fo s t ∨ ((s : Int) ∈ ss ∧ s < fo.length ∧ (t : Int) ∈ be)
  | [], fo, be, _, s, t => by simp [folF]
  | x :: ss, fo, be, h, s, t => by
    have h0 := h x (by simp)
    rw [folF, folF_mem ss _ be (fun y hy => h y (by simp [hy])) s t, List.length_set]
    have key : FoR (fo.set x.toNat (setF (fo.getD x.toNat [] ++ be))) s t ↔ FoR fo s t ∨ (x = s ∧ s < fo.length ∧ (t : Int) ∈ be) := by
      unfold FoR
      rw [List.getD_eq_getElem?_getD, List.getElem?_set]
      by_cases e : x.toNat = s
      · rw [if_pos e]
        have e2 : x = s := by omega
        by_cases hl : s < fo.length
        · rw [if_pos (by omega), Option.getD_some, mem_setF, List.mem_append, e]
          exact ⟨fun h => h.elim .inl (fun h => .inr ⟨e2, hl, h⟩), fun h => h.elim .inl (fun h => .inr h.2.2)⟩
        · rw [if_neg (by omega), Option.getD_none]
          constructor
          · intro h; simp at h
          · rintro (h | ⟨_, h, _⟩)
            · rw [List.getD_eq_getElem?_getD, List.getElem?_eq_none (by omega)] at h; exact h
            · omega
      · rw [if_neg e, ← List.getD_eq_getElem?_getD]
        exact ⟨.inl, fun h => h.elim id (fun h => by omega)⟩
    rw [key]
    simp only [List.mem_cons]
    constructor
    · rintro ((h | ⟨h1, h2, h3⟩) | ⟨h1, h2, h3⟩)
      · exact .inl h
      · exact .inr ⟨.inl h1.symm, h2, h3⟩
      · exact .inr ⟨.inr h1, h2, h3⟩
    · rintro (h | ⟨h1 | h1, h2, h3⟩)
      · exact .inl (.inl h)
      · exact .inl (.inr ⟨h1.symm, h2, h3⟩)
      · exact .inr ⟨h1, h2, h3⟩
theorem folF_up : ∀ (ss : List Int) (fo : List (List Int)) (be : List Int), (∀ r ∈ fo, Up r) → (∀ x ∈ be, 0 ≤ x) → ∀ r ∈ folF fo ss be, Up r
  | [], fo, be, h, _ => h
  | x :: ss, fo, be, h, hb => by
    refine folF_up ss _ be (fun r hr => ?_) hb
    rcases List.mem_or_eq_of_mem_set hr with hr | rfl
    · exact h r hr
    · refine up_set (fun y hy => ?_) hb
      rw [List.getD_eq_getElem?_getD] at hy
      cases hg : fo[x.toNat]? with
      | none => rw [hg] at hy; simp at hy
      | some r => rw [hg] at hy; exact (h r (List.mem_of_getElem? hg)).2 y hy
/-- What goes from one form's end to a later one's. -/
def crossA : List Pat → Nat → Nat → Nat → Prop
  | [], _, _, _ => False
  | q :: qs, b, s, t => ((geP q b).lst s ∧ (geA qs (b + cntP q)).fst t) ∨ crossA qs (b + cntP q) s t
theorem geA_fol : ∀ (ks : List Pat) (b s t : Nat), (geA ks b).fol s t ↔ geW ks b s t ∨ crossA ks b s t
  | [], b, s, t => by simp only [geA, geW, crossA, nilE]; simp
  | q :: qs, b, s, t => by
    simp only [geA, geW, crossA, catE]
    rw [geA_fol qs]
    constructor
    · rintro (h | (h | h) | h)
      · exact .inl (.inl h)
      · exact .inl (.inr h)
      · exact .inr (.inr h)
      · exact .inr (.inl h)
    · rintro ((h | h) | (h | h))
      · exact .inl h
      · exact .inr (.inl (.inl h))
      · exact .inr (.inr h)
      · exact .inr (.inl (.inr h))
theorem geO_fol : ∀ (ks : List Pat) (b s t : Nat), (geO ks b).fol s t ↔ geW ks b s t
  | [], b, s, t => by simp only [geO, geW, noE]
  | q :: qs, b, s, t => by
    simp only [geO, geW, altE]
    rw [geO_fol qs]
def EdsOk : List Ed → List Pat → Nat → Prop
  | [], [], _ => True
  | e :: es, q :: qs, b => EdOk e (geP q b) ∧ EdsOk es qs (b + cntP q)
  | _, _, _ => False
theorem ed_cat {e f : Ed} {E G : GE} (h : EdOk e E) (k : EdOk f G) : EdOk ⟨e.nul && f.nul, if e.nul = true then setF (e.fst ++ f.fst) else e.fst, setF ((if f.nul = true then e.lst else []) ++ f.lst)⟩ (catE E G) := by
  refine ⟨?_, fun t => ?_, fun t => ?_, ?_, ?_⟩
  · simp only [Bool.and_eq_true, h.nul, k.nul, catE]
  · simp only [catE]
    have h1 := h.fst t
    have h2 := k.fst t
    have h3 := h.nul
    cases hn : e.nul with
    | true =>
      rw [hn] at h3
      have := h3.mp rfl
      simp only [if_true, mem_setF, List.mem_append, h1, h2]
      exact ⟨fun x => x.elim .inl (fun x => .inr ⟨this, x⟩), fun x => x.elim .inl (fun x => .inr x.2)⟩
    | false =>
      rw [hn] at h3
      have : ¬ E.nul := fun x => by have := h3.mpr x; cases this
      simp only [Bool.false_eq_true, if_false, h1]
      exact ⟨.inl, fun x => x.elim id (fun x => (this x.1).elim)⟩
  · simp only [catE, mem_setF, List.mem_append]
    have h1 := h.lst t
    have h2 := k.lst t
    have h3 := k.nul
    cases hn : f.nul with
    | true =>
      rw [hn] at h3
      have := h3.mp rfl
      simp only [if_true, h1, h2]
      exact ⟨fun x => x.elim (fun x => .inl ⟨x, this⟩) .inr, fun x => x.elim (fun x => .inl x.1) .inr⟩
    | false =>
      rw [hn] at h3
      have : ¬ G.nul := fun x => by have := h3.mpr x; cases this
      simp only [Bool.false_eq_true, if_false, List.not_mem_nil, false_or, h2]
      exact ⟨.inr, fun x => x.elim (fun x => (this x.2).elim) id⟩
  · simp only
    split
    · exact up_set h.uf.2 k.uf.2
    · exact h.uf
  · refine up_set (fun x hx => ?_) k.ul.2
    split at hx
    · exact h.ul.2 x hx
    · simp at hx
theorem ed_alt {e f : Ed} {E G : GE} (h : EdOk e E) (k : EdOk f G) : EdOk ⟨e.nul || f.nul, setF (e.fst ++ f.fst), setF (e.lst ++ f.lst)⟩ (altE E G) := by
  refine ⟨?_, fun t => ?_, fun t => ?_, up_set h.uf.2 k.uf.2, up_set h.ul.2 k.ul.2⟩
  · simp only [Bool.or_eq_true, h.nul, k.nul, altE]
  · simp only [mem_setF, List.mem_append, h.fst, k.fst, altE]
  · simp only [mem_setF, List.mem_append, h.lst, k.lst, altE]
theorem ed_congr {e : Ed} {E G : GE} (h : EdOk e E) (hn : E.nul ↔ G.nul) (h1 : ∀ t, E.fst t ↔ G.fst t) (h2 : ∀ t, E.lst t ↔ G.lst t) : EdOk e G :=
  ⟨h.nul.trans hn, fun t => (h.fst t).trans (h1 t), fun t => (h.lst t).trans (h2 t), h.uf, h.ul⟩
end Go.Rf

