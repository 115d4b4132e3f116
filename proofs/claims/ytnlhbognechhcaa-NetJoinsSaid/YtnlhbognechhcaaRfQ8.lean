import Derived.Test.YtnlhbognechhcaaRfV1
/- Own work: what stands first, last and behind in a form (plain law): a form's paths through its places match what the form matches. -/
set_option linter.unusedVariables false
namespace Go.Rf
open Go.RowKit
/-- What stands at the ends of a form, and whether it may be nothing. -/
structure GE where
  nul : Prop
  fst : Nat → Prop
  lst : Nat → Prop
  fol : Nat → Nat → Prop
section
variable (T : Nat → Int → Int → Prop)
/-- From one state on to another one, by signs. -/
inductive Rn (F : Nat → Nat → Prop) : Nat → Int → Nat → Int → Prop where
  | refl (s : Nat) (a : Int) : Rn F s a s a
  | step (s t u : Nat) (a m b : Int) (h : F s t) (k : T t a m) (r : Rn F t m u b) : Rn F s a u b
def Acc (E : GE) (a b : Int) : Prop := (E.nul ∧ a = b) ∨ ∃ s m t, E.fst s ∧ T s a m ∧ Rn T E.fol s m t b ∧ E.lst t
end
section
variable {T : Nat → Int → Int → Prop}
theorem Rn.mono {F G : Nat → Nat → Prop} (h : ∀ s t, F s t → G s t) {s t : Nat} {a b : Int} (r : Rn T F s a t b) : Rn T G s a t b := by
  induction r with
  | refl s a => exact .refl s a
  | step s t u a m b hf k r ih => exact .step s t u a m b (h _ _ hf) k ih
theorem Rn.trans {F : Nat → Nat → Prop} {s t u : Nat} {a m b : Int} (r : Rn T F s a t m) (r2 : Rn T F t m u b) : Rn T F s a u b := by
  induction r with
  | refl s a => exact r2
  | step s t u a m b hf k r ih => exact .step _ _ _ _ _ _ hf k (ih r2)
/-- Places lie from one to below another one. -/
structure In (E : GE) (b c : Nat) : Prop where
  fst : ∀ s, E.fst s → b ≤ s ∧ s < c
  lst : ∀ s, E.lst s → b ≤ s ∧ s < c
  fol : ∀ s t, E.fol s t → (b ≤ s ∧ s < c) ∧ b ≤ t ∧ t < c
def catE (E G : GE) : GE := ⟨E.nul ∧ G.nul, fun s => E.fst s ∨ (E.nul ∧ G.fst s), fun s => (E.lst s ∧ G.nul) ∨ G.lst s, fun s t => E.fol s t ∨ G.fol s t ∨ (E.lst s ∧ G.fst t)⟩
def altE (E G : GE) : GE := ⟨E.nul ∨ G.nul, fun s => E.fst s ∨ G.fst s, fun s => E.lst s ∨ G.lst s, fun s t => E.fol s t ∨ G.fol s t⟩
def plusE (E : GE) (n : Prop) : GE := ⟨E.nul ∨ n, E.fst, E.lst, fun s t => E.fol s t ∨ (E.lst s ∧ E.fst t)⟩
def maybeE (E : GE) : GE := ⟨True, E.fst, E.lst, E.fol⟩
theorem In.cat {E G : GE} {b c d : Nat} (h : In E b c) (k : In G c d) (hbc : b ≤ c) (hcd : c ≤ d) : In (catE E G) b d := by
  refine ⟨fun s hs => ?_, fun s hs => ?_, fun s t hs => ?_⟩
  · rcases hs with hs | ⟨_, hs⟩
    · have := h.fst s hs; omega
    · have := k.fst s hs; omega
  · rcases hs with ⟨hs, _⟩ | hs
    · have := h.lst s hs; omega
    · have := k.lst s hs; omega
  · rcases hs with hs | hs | ⟨h1, h2⟩
    · have := h.fol s t hs; omega
    · have := k.fol s t hs; omega
    · have := h.lst s h1; have := k.fst t h2; omega
theorem In.alt {E G : GE} {b c d : Nat} (h : In E b c) (k : In G c d) (hbc : b ≤ c) (hcd : c ≤ d) : In (altE E G) b d := by
  refine ⟨fun s hs => ?_, fun s hs => ?_, fun s t hs => ?_⟩
  · rcases hs with hs | hs
    · have := h.fst s hs; omega
    · have := k.fst s hs; omega
  · rcases hs with hs | hs
    · have := h.lst s hs; omega
    · have := k.lst s hs; omega
  · rcases hs with hs | hs
    · have := h.fol s t hs; omega
    · have := k.fol s t hs; omega
theorem In.plus {E : GE} {b c : Nat} (h : In E b c) (n : Prop) : In (plusE E n) b c := by
  refine ⟨h.fst, h.lst, fun s t hs => ?_⟩
  rcases hs with hs | ⟨h1, h2⟩
  · exact h.fol s t hs
  · exact ⟨h.lst s h1, h.fst t h2⟩
/-- Where a run stays on one side. -/
theorem Rn.right {E G : GE} {b c d : Nat} (h : In E b c) (k : In G c d) {F : Nat → Nat → Prop} (hF : ∀ s t, F s t → E.fol s t ∨ G.fol s t ∨ (E.lst s ∧ G.fst t)) {s t : Nat} {a e : Int} (r : Rn T F s a t e) (hs : c ≤ s) : Rn T G.fol s a t e ∧ c ≤ t := by
  induction r with
  | refl s a => exact ⟨.refl s a, hs⟩
  | step s t u a m e hf kk r ih =>
    rcases hF s t hf with hf | hf | ⟨h1, _⟩
    · have := h.fol s t hf; omega
    · have := k.fol s t hf
      obtain ⟨i1, i2⟩ := ih (by omega)
      exact ⟨.step _ _ _ _ _ _ hf kk i1, i2⟩
    · have := h.lst s h1; omega
theorem Rn.left {E G : GE} {b c d : Nat} (h : In E b c) (k : In G c d) {F : Nat → Nat → Prop} (hF : ∀ s t, F s t → E.fol s t ∨ G.fol s t ∨ (E.lst s ∧ G.fst t)) {s t : Nat} {a e : Int} (r : Rn T F s a t e) (hs : s < c) :
    (t < c ∧ Rn T E.fol s a t e) ∨ ∃ u m v w, Rn T E.fol s a u m ∧ E.lst u ∧ G.fst v ∧ T v m w ∧ Rn T G.fol v w t e ∧ c ≤ t := by
  induction r with
  | refl s a => exact .inl ⟨hs, .refl s a⟩
  | step s t u a m e hf kk r ih =>
    rcases hF s t hf with hf | hf | ⟨h1, h2⟩
    · have := h.fol s t hf
      rcases ih (by omega) with ⟨i1, i2⟩ | ⟨u', m', v, w, j1, j2, j3, j4, j5, j6⟩
      · exact .inl ⟨i1, .step _ _ _ _ _ _ hf kk i2⟩
      · exact .inr ⟨u', m', v, w, .step _ _ _ _ _ _ hf kk j1, j2, j3, j4, j5, j6⟩
    · have := k.fol s t hf; omega
    · have := k.fst t h2
      obtain ⟨i1, i2⟩ := Rn.right h k hF r (by omega)
      exact .inr ⟨s, a, t, m, .refl s a, h1, h2, kk, i1, i2⟩
theorem acc_cat {E G : GE} {b c d : Nat} (h : In E b c) (k : In G c d) {a e : Int} : Acc T (catE E G) a e ↔ ∃ m, Acc T E a m ∧ Acc T G m e := by
  constructor
  · rintro (⟨⟨h1, h2⟩, rfl⟩ | ⟨s, m, t, hf, hT, hr, hl⟩)
    · exact ⟨a, .inl ⟨h1, rfl⟩, .inl ⟨h2, rfl⟩⟩
    · rcases hf with hf | ⟨hn, hf⟩
      · have hs := h.fst s hf
        rcases Rn.left h k (fun _ _ x => x) hr (by omega) with ⟨i1, i2⟩ | ⟨u, m', v, w, j1, j2, j3, j4, j5, j6⟩
        · rcases hl with ⟨hl, hn⟩ | hl
          · exact ⟨e, .inr ⟨s, m, t, hf, hT, i2, hl⟩, .inl ⟨hn, rfl⟩⟩
          · have := k.lst t hl; omega
        · rcases hl with ⟨hl, hn⟩ | hl
          · have := h.lst t hl; omega
          · exact ⟨m', .inr ⟨s, m, u, hf, hT, j1, j2⟩, .inr ⟨v, w, t, j3, j4, j5, hl⟩⟩
      · have hs := k.fst s hf
        obtain ⟨i1, i2⟩ := Rn.right h k (fun _ _ x => x) hr (by omega)
        rcases hl with ⟨hl, _⟩ | hl
        · have := h.lst t hl; omega
        · exact ⟨a, .inl ⟨hn, rfl⟩, .inr ⟨s, m, t, hf, hT, i1, hl⟩⟩
  · rintro ⟨m, (⟨h1, rfl⟩ | ⟨s, m1, t, hf, hT, hr, hl⟩), (⟨h2, rfl⟩ | ⟨s2, m2, t2, hf2, hT2, hr2, hl2⟩)⟩
    · exact .inl ⟨⟨h1, h2⟩, rfl⟩
    · exact .inr ⟨s2, m2, t2, .inr ⟨h1, hf2⟩, hT2, hr2.mono fun _ _ x => .inr (.inl x), .inr hl2⟩
    · exact .inr ⟨s, m1, t, .inl hf, hT, hr.mono fun _ _ x => .inl x, .inl ⟨hl, h2⟩⟩
    · exact .inr ⟨s, m1, t2, .inl hf, hT, (hr.mono fun _ _ x => .inl x).trans (.step _ _ _ _ _ _ (.inr (.inr ⟨hl, hf2⟩)) hT2 (hr2.mono fun _ _ x => .inr (.inl x))), .inr hl2⟩
theorem acc_alt {E G : GE} {b c d : Nat} (h : In E b c) (k : In G c d) {a e : Int} : Acc T (altE E G) a e ↔ Acc T E a e ∨ Acc T G a e := by
  have hF : ∀ s t, (altE E G).fol s t → E.fol s t ∨ G.fol s t ∨ (E.lst s ∧ (fun _ => False) t) := fun s t x => x.elim .inl (fun x => .inr (.inl x))
  have k' : In ⟨G.nul, fun _ => False, G.lst, G.fol⟩ c d := ⟨fun s hs => hs.elim, k.lst, k.fol⟩
  constructor
  · rintro (⟨h1 | h1, rfl⟩ | ⟨s, m, t, hf, hT, hr, hl⟩)
    · exact .inl (.inl ⟨h1, rfl⟩)
    · exact .inr (.inl ⟨h1, rfl⟩)
    · rcases hf with hf | hf
      · have hs := h.fst s hf
        rcases Rn.left (G := ⟨G.nul, fun _ => False, G.lst, G.fol⟩) h k' hF hr (by omega) with ⟨i1, i2⟩ | ⟨u, m', v, w, j1, j2, j3, j4, j5, j6⟩
        · rcases hl with hl | hl
          · exact .inl (.inr ⟨s, m, t, hf, hT, i2, hl⟩)
          · have := k.lst t hl; omega
        · exact j3.elim
      · have hs := k.fst s hf
        obtain ⟨i1, i2⟩ := Rn.right (G := ⟨G.nul, fun _ => False, G.lst, G.fol⟩) h k' hF hr (by omega)
        rcases hl with hl | hl
        · have := h.lst t hl; omega
        · exact .inr (.inr ⟨s, m, t, hf, hT, i1, hl⟩)
  · rintro ((⟨h1, rfl⟩ | ⟨s, m, t, hf, hT, hr, hl⟩) | (⟨h1, rfl⟩ | ⟨s, m, t, hf, hT, hr, hl⟩))
    · exact .inl ⟨.inl h1, rfl⟩
    · exact .inr ⟨s, m, t, .inl hf, hT, hr.mono fun _ _ x => .inl x, .inl hl⟩
    · exact .inl ⟨.inr h1, rfl⟩
    · exact .inr ⟨s, m, t, .inr hf, hT, hr.mono fun _ _ x => .inr x, .inr hl⟩
end
end Go.Rf


/- Own work: a form's ends, and what stands behind what; its paths match what it matches (plain law). -/
set_option linter.unusedVariables false
namespace Go.Rf
open Go.RowKit
section
variable {T : Nat → Int → Int → Prop}
theorem Acc.mono {E G : GE} (hn : E.nul → G.nul) (h1 : ∀ s, E.fst s → G.fst s) (h2 : ∀ s, E.lst s → G.lst s) (h3 : ∀ s t, E.fol s t → G.fol s t) {a e : Int} (h : Acc T E a e) : Acc T G a e := by
  rcases h with ⟨h, rfl⟩ | ⟨s, m, t, hf, hT, hr, hl⟩
  · exact .inl ⟨hn h, rfl⟩
  · exact .inr ⟨s, m, t, h1 s hf, hT, hr.mono h3, h2 t hl⟩
theorem acc_maybe {E : GE} {a e : Int} : Acc T (maybeE E) a e ↔ a = e ∨ Acc T E a e := by
  constructor
  · rintro (⟨_, rfl⟩ | h)
    · exact .inl rfl
    · exact .inr (.inr h)
  · rintro (rfl | h)
    · exact .inl ⟨trivial, rfl⟩
    · exact Acc.mono (E := E) (G := maybeE E) (fun _ => trivial) (fun _ x => x) (fun _ x => x) (fun _ _ x => x) h
theorem plus_run {E : GE} {s t : Nat} {m e : Int} (r : Rn T (fun s t => E.fol s t ∨ (E.lst s ∧ E.fst t)) s m t e) (hl : E.lst t) : ∀ {a : Int} {s0 : Nat} {m0 : Int}, E.fst s0 → T s0 a m0 → Rn T E.fol s0 m0 s m → Clo (Acc T E) a e := by
  induction r with
  | refl s m => intro a s0 m0 h0 hT hr; exact .one (.inr ⟨s0, m0, s, h0, hT, hr, hl⟩)
  | step s t u m m2 e hf kk r ih =>
    intro a s0 m0 h0 hT hr
    rcases hf with hf | ⟨h1, h2⟩
    · exact ih hl h0 hT (hr.trans (.step _ _ _ _ _ _ hf kk (.refl _ _)))
    · exact (Clo.one (.inr ⟨s0, m0, s, h0, hT, hr, h1⟩)).trans (ih hl h2 kk (.refl _ _))
theorem acc_plus {E : GE} {n : Prop} {a e : Int} : Acc T (plusE E n) a e ↔ (n ∧ a = e) ∨ Clo (Acc T E) a e := by
  constructor
  · rintro (⟨h | h, rfl⟩ | ⟨s, m, t, hf, hT, hr, hl⟩)
    · exact .inr (.one (.inl ⟨h, rfl⟩))
    · exact .inl ⟨h, rfl⟩
    · exact .inr (plus_run hr hl hf hT (.refl _ _))
  · rintro (⟨h, rfl⟩ | h)
    · exact .inl ⟨.inr h, rfl⟩
    · have up : ∀ {a e : Int}, Acc T E a e → Acc T (plusE E n) a e := fun h => Acc.mono (E := E) (G := plusE E n) (fun x => .inl x) (fun _ x => x) (fun _ x => x) (fun _ _ x => .inl x) h
      induction h with
      | one h => exact up h
      | more h k ih =>
        rcases ih with ⟨_, rfl⟩ | ⟨s, m, t, hf, hT, hr, hl⟩
        · exact up k
        · rcases k with ⟨_, rfl⟩ | ⟨s2, m2, t2, hf2, hT2, hr2, hl2⟩
          · exact .inr ⟨s, m, t, hf, hT, hr, hl⟩
          · exact .inr ⟨s, m, t2, hf, hT, hr.trans (.step _ _ _ _ _ _ (.inr ⟨hl, hf2⟩) hT2 (hr2.mono fun _ _ x => .inl x)), hl2⟩
end
mutual
/-- How many places a form has. -/
def cntP : Pat → Nat
  | .mk k _ _ ks => if k = 1 then 0 else if k = 2 then 1 else cntL ks
def cntL : List Pat → Nat
  | [] => 0
  | q :: qs => cntP q + cntL qs
end
def noE : GE := ⟨False, fun _ => False, fun _ => False, fun _ _ => False⟩
def nilE : GE := ⟨True, fun _ => False, fun _ => False, fun _ _ => False⟩
def oneE (b : Nat) : GE := ⟨False, fun s => s = b, fun s => s = b, fun _ _ => False⟩
mutual
def geP : Pat → Nat → GE
  | .mk k _ _ ks, b => if k = 1 then nilE else if k = 2 then oneE b else if k = 3 then geA ks b else if k = 4 then geO ks b else ⟨(geG ks k b).nul, (geG ks k b).fst, (geG ks k b).lst, fun s t => (geG ks k b).fol s t ∨ geW ks b s t⟩
def geA : List Pat → Nat → GE
  | [], _ => nilE
  | q :: qs, b => catE (geP q b) (geA qs (b + cntP q))
def geO : List Pat → Nat → GE
  | [], _ => noE
  | q :: qs, b => altE (geP q b) (geO qs (b + cntP q))
def geG : List Pat → Int → Nat → GE
  | [q], k, b => if k = 7 then maybeE (geP q b) else if k = 5 ∨ k = 6 then plusE (geP q b) (k ≠ 6) else noE
  | _, _, _ => noE
/-- What stands behind what in forms' inside. -/
def geW : List Pat → Nat → Nat → Nat → Prop
  | [], _, _, _ => False
  | q :: qs, b, s, t => (geP q b).fol s t ∨ geW qs (b + cntP q) s t
end
mutual
theorem in_P : ∀ (p : Pat) (b : Nat), In (geP p b) b (b + cntP p)
  | .mk k r g ks, b => by
    simp only [geP, cntP]
    split
    · exact ⟨fun s hs => hs.elim, fun s hs => hs.elim, fun s t hs => hs.elim⟩
    · split
      · exact ⟨fun s hs => by have : s = b := hs; omega, fun s hs => by have : s = b := hs; omega, fun s t hs => hs.elim⟩
      · split
        · exact in_A ks b
        · split
          · exact in_O ks b
          · have h := in_G ks k b
            refine ⟨h.fst, h.lst, fun s t hs => ?_⟩
            rcases hs with hs | hs
            · exact h.fol s t hs
            · exact in_W ks b s t hs
theorem in_A : ∀ (ks : List Pat) (b : Nat), In (geA ks b) b (b + cntL ks)
  | [], b => by
    simp only [geA]
    exact ⟨fun s hs => hs.elim, fun s hs => hs.elim, fun s t hs => hs.elim⟩
  | q :: qs, b => by
    simp only [geA, cntL]
    have := (in_P q b).cat (in_A qs (b + cntP q)) (by omega) (by omega)
    rwa [Nat.add_assoc] at this
theorem in_O : ∀ (ks : List Pat) (b : Nat), In (geO ks b) b (b + cntL ks)
  | [], b => by
    simp only [geO]
    exact ⟨fun s hs => hs.elim, fun s hs => hs.elim, fun s t hs => hs.elim⟩
  | q :: qs, b => by
    simp only [geO, cntL]
    have := (in_P q b).alt (in_O qs (b + cntP q)) (by omega) (by omega)
    rwa [Nat.add_assoc] at this
theorem in_G : ∀ (ks : List Pat) (k : Int) (b : Nat), In (geG ks k b) b (b + cntL ks)
  | [], k, b => by
    simp only [geG]
    exact ⟨fun s hs => hs.elim, fun s hs => hs.elim, fun s t hs => hs.elim⟩
  | [q], k, b => by
    have h := in_P q b
    simp only [geG, cntL, Nat.add_zero]
    split
    · exact ⟨h.fst, h.lst, h.fol⟩
    · split
      · exact h.plus _
      · exact ⟨fun s hs => hs.elim, fun s hs => hs.elim, fun s t hs => hs.elim⟩
  | _ :: _ :: _, k, b => by
    simp only [geG]
    exact ⟨fun s hs => hs.elim, fun s hs => hs.elim, fun s t hs => hs.elim⟩
theorem in_W : ∀ (ks : List Pat) (b s t : Nat), geW ks b s t → (b ≤ s ∧ s < b + cntL ks) ∧ b ≤ t ∧ t < b + cntL ks
  | [], b, s, t, h => by simp only [geW] at h
  | q :: qs, b, s, t, h => by
    simp only [geW] at h
    simp only [cntL]
    rcases h with h | h
    · have := (in_P q b).fol s t h; omega
    · have := in_W qs (b + cntP q) s t h; omega
end
mutual
/-- The places' signs are the form's. -/
def LfP (T : Nat → Int → Int → Prop) (S : List Int → Int → Int → Prop) : Pat → Nat → Prop
  | .mk k _ g ks, b => (k = 2 → ∀ a e, T b a e ↔ S g a e) ∧ (k ≠ 1 → k ≠ 2 → LfL T S ks b)
def LfL (T : Nat → Int → Int → Prop) (S : List Int → Int → Int → Prop) : List Pat → Nat → Prop
  | [], _ => True
  | q :: qs, b => LfP T S q b ∧ LfL T S qs (b + cntP q)
end
section
variable {T : Nat → Int → Int → Prop} {S : List Int → Int → Int → Prop}
theorem acc_nil {a e : Int} : Acc T nilE a e ↔ a = e := ⟨fun h => h.elim (fun h => h.2) (fun ⟨_, _, _, h, _⟩ => h.elim), fun h => .inl ⟨trivial, h⟩⟩
theorem acc_no {a e : Int} : Acc T noE a e ↔ False := ⟨fun h => h.elim (fun h => h.1) (fun ⟨_, _, _, h, _⟩ => h.elim), False.elim⟩
theorem acc_one {b : Nat} {a e : Int} : Acc T (oneE b) a e ↔ T b a e := by
  constructor
  · rintro (⟨h, _⟩ | ⟨s, m, t, rfl, hT, hr, rfl⟩)
    · exact h.elim
    · cases hr with
      | refl => exact hT
      | step _ _ _ _ _ _ h => exact h.elim
  · intro h
    exact .inr ⟨b, e, b, rfl, h, .refl _ _, rfl⟩
theorem clo_congr {r q : Int → Int → Prop} (h : ∀ a b, r a b ↔ q a b) {a b : Int} : Clo r a b ↔ Clo q a b := by
  have : r = q := funext fun a => funext fun b => propext (h a b)
  rw [this]
mutual
theorem acc_P : ∀ (p : Pat) (b : Nat), LfP T S p b → ∀ a e, Acc T (geP p b) a e ↔ MR S p a e
  | .mk k r g ks, b, h, a, e => by
    simp only [LfP] at h
    simp only [geP, MR]
    by_cases h1 : k = 1
    · rw [if_pos h1, if_pos h1]; exact acc_nil
    rw [if_neg h1, if_neg h1]
    by_cases h2 : k = 2
    · rw [if_pos h2, if_pos h2, acc_one]; exact h.1 h2 a e
    rw [if_neg h2, if_neg h2]
    have hL := h.2 h1 h2
    by_cases h3 : k = 3
    · rw [if_pos h3, if_pos h3]; exact acc_A ks b hL a e
    rw [if_neg h3, if_neg h3]
    by_cases h4 : k = 4
    · rw [if_pos h4, if_pos h4]; exact acc_O ks b hL a e
    rw [if_neg h4, if_neg h4]
    exact acc_G ks k b hL a e
theorem acc_A : ∀ (ks : List Pat) (b : Nat), LfL T S ks b → ∀ a e, Acc T (geA ks b) a e ↔ MA S ks a e
  | [], b, h, a, e => by simp only [geA, MA]; exact acc_nil
  | q :: qs, b, h, a, e => by
    simp only [LfL] at h
    simp only [geA, MA]
    rw [acc_cat (in_P q b) (in_A qs (b + cntP q))]
    exact ⟨fun ⟨m, h1, h2⟩ => ⟨m, (acc_P q b h.1 a m).mp h1, (acc_A qs _ h.2 m e).mp h2⟩, fun ⟨m, h1, h2⟩ => ⟨m, (acc_P q b h.1 a m).mpr h1, (acc_A qs _ h.2 m e).mpr h2⟩⟩
theorem acc_O : ∀ (ks : List Pat) (b : Nat), LfL T S ks b → ∀ a e, Acc T (geO ks b) a e ↔ MO S ks a e
  | [], b, h, a, e => by simp only [geO, MO]; exact acc_no
  | q :: qs, b, h, a, e => by
    simp only [LfL] at h
    simp only [geO, MO]
    rw [acc_alt (in_P q b) (in_O qs (b + cntP q)), acc_P q b h.1 a e, acc_O qs _ h.2 a e]
theorem acc_G : ∀ (ks : List Pat) (k : Int) (b : Nat), LfL T S ks b → ∀ a e, Acc T ⟨(geG ks k b).nul, (geG ks k b).fst, (geG ks k b).lst, fun s t => (geG ks k b).fol s t ∨ geW ks b s t⟩ a e ↔ (if k = 7 ∨ k = 5 ∨ k = 6 then MG S ks k a e else False)
  | [], k, b, h, a, e => by
    simp only [geG, MG]
    have : Acc T ⟨noE.nul, noE.fst, noE.lst, fun s t => noE.fol s t ∨ geW [] b s t⟩ a e ↔ False := ⟨fun h => h.elim (fun h => h.1) (fun ⟨_, _, _, h, _⟩ => h.elim), False.elim⟩
    rw [this]; split <;> rfl
  | [q], k, b, h, a, e => by
    simp only [LfL] at h
    have hq := acc_P q b h.1
    have hW : ∀ s t, geW [q] b s t ↔ (geP q b).fol s t := fun s t => by simp only [geW]; exact ⟨fun h => h.elim id False.elim, .inl⟩
    by_cases h7 : k = 7
    · have hg : geG [q] k b = maybeE (geP q b) := by simp only [geG]; rw [if_pos h7]
      rw [if_pos (.inl h7), hg]
      have e1 : (fun s t => (maybeE (geP q b)).fol s t ∨ geW [q] b s t) = (maybeE (geP q b)).fol := funext fun s => funext fun t => propext ⟨fun h => h.elim id (hW s t).mp, .inl⟩
      rw [e1]
      show Acc T (maybeE (geP q b)) a e ↔ _
      rw [acc_maybe, hq a e]
      simp only [MG]
      rw [if_pos h7]
      have : k ≠ 6 := by omega
      exact ⟨fun h => h.elim (fun h => .inl ⟨this, h⟩) .inr, fun h => h.elim (fun h => .inl h.2) .inr⟩
    · by_cases h56 : k = 5 ∨ k = 6
      · have hg : geG [q] k b = plusE (geP q b) (k ≠ 6) := by simp only [geG]; rw [if_neg h7, if_pos h56]
        rw [if_pos (.inr h56), hg]
        have e1 : (fun s t => (plusE (geP q b) (k ≠ 6)).fol s t ∨ geW [q] b s t) = (plusE (geP q b) (k ≠ 6)).fol := funext fun s => funext fun t => propext ⟨fun h => h.elim id (fun h => .inl ((hW s t).mp h)), .inl⟩
        rw [e1]
        show Acc T (plusE (geP q b) (k ≠ 6)) a e ↔ _
        rw [acc_plus]
        simp only [MG]
        rw [if_neg h7, clo_congr hq]
      · have hg : geG [q] k b = noE := by simp only [geG]; rw [if_neg h7, if_neg h56]
        rw [if_neg (by omega), hg]
        exact ⟨fun h => h.elim (fun h => h.1) (fun ⟨_, _, _, h, _⟩ => h.elim), False.elim⟩
  | p :: q :: r, k, b, h, a, e => by
    simp only [geG, MG]
    have : Acc T ⟨noE.nul, noE.fst, noE.lst, fun s t => noE.fol s t ∨ geW (p :: q :: r) b s t⟩ a e ↔ False := ⟨fun h => h.elim (fun h => h.1) (fun ⟨_, _, _, h, _⟩ => h.elim), False.elim⟩
    rw [this]; split <;> rfl
end
end
end Go.Rf

