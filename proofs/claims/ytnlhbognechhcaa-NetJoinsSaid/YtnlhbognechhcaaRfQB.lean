import Derived.Test.YtnlhbognechhcaaRfQ9
/- Own work: how net.go lays a form's net, as plain functions; they lay its ends (plain law). -/
set_option linter.unusedVariables false
set_option linter.unusedSimpArgs false
namespace Go.Rf
open Go.RowKit
structure Gs where
  by_ : List (List Int)
  fo : List (List Int)
structure Ed where
  nul : Bool
  fst : List Int
  lst : List Int
def folF (fo : List (List Int)) : List Int → List Int → List (List Int)
  | [], _ => fo
  | s :: ss, be => folF (fo.set s.toNat (setF (fo.getD s.toNat [] ++ be))) ss be
def gjoin : List Ed → Ed → Gs → Ed × Gs
  | [], all, st => (all, st)
  | e :: es, all, st => gjoin es ⟨all.nul && e.nul, if all.nul = true then setF (all.fst ++ e.fst) else all.fst, setF ((if e.nul = true then all.lst else []) ++ e.lst)⟩ ⟨st.by_, folF st.fo all.lst e.fst⟩
def geither : List Ed → Ed → Ed
  | [], all => all
  | e :: es, all => geither es ⟨all.nul || e.nul, setF (all.fst ++ e.fst), setF (all.lst ++ e.lst)⟩
def gone : List Ed → Int → Gs → Ed × Gs
  | [e], k, st => if 5 ≤ k ∧ k ≤ 7 then (⟨e.nul || decide (k ≠ 6), e.fst, e.lst⟩, if k = 7 then st else ⟨st.by_, folF st.fo e.lst e.fst⟩) else (⟨false, [], []⟩, st)
  | _, _, st => (⟨false, [], []⟩, st)
def leafF (sg : Int) (g : List Int) : List Int := setF (g.filter fun n => decide (0 ≤ n) && decide (n < sg))
mutual
def gform (sg : Int) : Pat → Gs → Ed × Gs
  | .mk k _ g ks, st => if k = 1 then (⟨true, [], []⟩, st) else if k = 2 then (⟨false, [(st.by_.length : Int)], [(st.by_.length : Int)]⟩, ⟨st.by_ ++ [leafF sg g], st.fo ++ [[]]⟩)
    else if k = 3 then gjoin (geach sg ks st).1 ⟨true, [], []⟩ (geach sg ks st).2 else if k = 4 then (geither (geach sg ks st).1 ⟨false, [], []⟩, (geach sg ks st).2) else gone (geach sg ks st).1 k (geach sg ks st).2
def geach (sg : Int) : List Pat → Gs → List Ed × Gs
  | [], st => ([], st)
  | q :: qs, st => ((gform sg q st).1 :: (geach sg qs (gform sg q st).2).1, (geach sg qs (gform sg q st).2).2)
end
/-- What stands behind what, in the lists. -/
def FoR (fo : List (List Int)) (s t : Nat) : Prop := (t : Int) ∈ fo.getD s []
/-- Each list rises, of what is not below 0. -/
def Up (l : List Int) : Prop := l.Pairwise (· < ·) ∧ ∀ x ∈ l, 0 ≤ x
structure EdOk (e : Ed) (E : GE) : Prop where
  nul : e.nul = true ↔ E.nul
  fst : ∀ t : Nat, (t : Int) ∈ e.fst ↔ E.fst t
  lst : ∀ t : Nat, (t : Int) ∈ e.lst ↔ E.lst t
  uf : Up e.fst
  ul : Up e.lst
theorem up_nil : Up [] := ⟨by simp, by simp⟩
theorem up_one (n : Nat) : Up [(n : Int)] := ⟨by simp, fun x hx => by simp at hx; omega⟩
theorem up_set {a b : List Int} (ha : ∀ x ∈ a, 0 ≤ x) (hb : ∀ x ∈ b, 0 ≤ x) : Up (setF (a ++ b)) :=
  ⟨setF_pw _, fun x hx => (List.mem_append.mp (mem_setF.mp hx)).elim (ha x) (hb x)⟩
theorem folF_len : ∀ (ss : List Int) (fo : List (List Int)) (be : List Int), (folF fo ss be).length = fo.length
  | [], fo, be => rfl
  | s :: ss, fo, be => by rw [folF, folF_len ss]; simp
theorem folF_mem : ∀ (ss : List Int) (fo : List (List Int)) (be : List Int), (∀ x ∈ ss, 0 ≤ x) → ∀ s t : Nat, FoR (folF fo ss be) s t ↔ FoR fo s t ∨ ((s : Int) ∈ ss ∧ s < fo.length ∧ (t : Int) ∈ be)
  | [], fo, be, _, s, t => by simp [folF]
  | x :: ss, fo, be, h, s, t => by
    have h0 := h x (by simp)
    rw [folF, folF_mem ss _ be (fun y hy => h y (by simp [hy])) s t, List.length_set]
    have key : FoR (fo.set x.toNat (setF (fo.getD x.toNat [] ++ be))) s t ↔ FoR fo s t ∨ (x = s ∧ s < fo.length ∧ (t : Int) ∈ be) := by
      unfold FoR
      rw [List.getD_eq_getElem?_getD, List.getElem?_set]
      by_cases e : x.toNat = s
      · rw [if_pos e]
        have e2 : x = s := by omega
        by_cases hl : s < fo.length
        · rw [if_pos (by omega), Option.getD_some, mem_setF, List.mem_append, e]
          exact ⟨fun h => h.elim .inl (fun h => .inr ⟨e2, hl, h⟩), fun h => h.elim .inl (fun h => .inr h.2.2)⟩
        · rw [if_neg (by omega), Option.getD_none]
          constructor
          · intro h; simp at h
          · rintro (h | ⟨_, h, _⟩)
            · rw [List.getD_eq_getElem?_getD, List.getElem?_eq_none (by omega)] at h; exact h
            · omega
      · rw [if_neg e, ← List.getD_eq_getElem?_getD]
        exact ⟨.inl, fun h => h.elim id (fun h => by omega)⟩
    rw [key]
    simp only [List.mem_cons]
    constructor
    · rintro ((h | ⟨h1, h2, h3⟩) | ⟨h1, h2, h3⟩)
      · exact .inl h
      · exact .inr ⟨.inl h1.symm, h2, h3⟩
      · exact .inr ⟨.inr h1, h2, h3⟩
    · rintro (h | ⟨h1 | h1, h2, h3⟩)
      · exact .inl (.inl h)
      · exact .inl (.inr ⟨h1.symm, h2, h3⟩)
      · exact .inr ⟨h1, h2, h3⟩
theorem folF_up : ∀ (ss : List Int) (fo : List (List Int)) (be : List Int), (∀ r ∈ fo, Up r) → (∀ x ∈ be, 0 ≤ x) → ∀ r ∈ folF fo ss be, Up r
  | [], fo, be, h, _ => h
  | x :: ss, fo, be, h, hb => by
    refine folF_up ss _ be (fun r hr => ?_) hb
    rcases List.mem_or_eq_of_mem_set hr with hr | rfl
    · exact h r hr
    · refine up_set (fun y hy => ?_) hb
      rw [List.getD_eq_getElem?_getD] at hy
      cases hg : fo[x.toNat]? with
      | none => rw [hg] at hy; simp at hy
      | some r => rw [hg] at hy; exact (h r (List.mem_of_getElem? hg)).2 y hy
/-- What goes from one form's end to a later one's. -/
def crossA : List Pat → Nat → Nat → Nat → Prop
  | [], _, _, _ => False
  | q :: qs, b, s, t => ((geP q b).lst s ∧ (geA qs (b + cntP q)).fst t) ∨ crossA qs (b + cntP q) s t
theorem geA_fol : ∀ (ks : List Pat) (b s t : Nat), (geA ks b).fol s t ↔ geW ks b s t ∨ crossA ks b s t
  | [], b, s, t => by simp only [geA, geW, crossA, nilE]; simp
  | q :: qs, b, s, t => by
    simp only [geA, geW, crossA, catE]
    rw [geA_fol qs]
    constructor
    · rintro (h | (h | h) | h)
      · exact .inl (.inl h)
      · exact .inl (.inr h)
      · exact .inr (.inr h)
      · exact .inr (.inl h)
    · rintro ((h | h) | (h | h))
      · exact .inl h
      · exact .inr (.inl (.inl h))
      · exact .inr (.inr h)
      · exact .inr (.inl (.inr h))
theorem geO_fol : ∀ (ks : List Pat) (b s t : Nat), (geO ks b).fol s t ↔ geW ks b s t
  | [], b, s, t => by simp only [geO, geW, noE]
  | q :: qs, b, s, t => by
    simp only [geO, geW, altE]
    rw [geO_fol qs]
def EdsOk : List Ed → List Pat → Nat → Prop
  | [], [], _ => True
  | e :: es, q :: qs, b => EdOk e (geP q b) ∧ EdsOk es qs (b + cntP q)
  | _, _, _ => False
theorem ed_cat {e f : Ed} {E G : GE} (h : EdOk e E) (k : EdOk f G) : EdOk ⟨e.nul && f.nul, if e.nul = true then setF (e.fst ++ f.fst) else e.fst, setF ((if f.nul = true then e.lst else []) ++ f.lst)⟩ (catE E G) := by
  refine ⟨?_, fun t => ?_, fun t => ?_, ?_, ?_⟩
  · simp only [Bool.and_eq_true, h.nul, k.nul, catE]
  · simp only [catE]
    have h1 := h.fst t
    have h2 := k.fst t
    have h3 := h.nul
    cases hn : e.nul with
    | true =>
      rw [hn] at h3
      have := h3.mp rfl
      simp only [if_true, mem_setF, List.mem_append, h1, h2]
      exact ⟨fun x => x.elim .inl (fun x => .inr ⟨this, x⟩), fun x => x.elim .inl (fun x => .inr x.2)⟩
    | false =>
      rw [hn] at h3
      have : ¬ E.nul := fun x => by have := h3.mpr x; cases this
      simp only [Bool.false_eq_true, if_false, h1]
      exact ⟨.inl, fun x => x.elim id (fun x => (this x.1).elim)⟩
  · simp only [catE, mem_setF, List.mem_append]
    have h1 := h.lst t
    have h2 := k.lst t
    have h3 := k.nul
    cases hn : f.nul with
    | true =>
      rw [hn] at h3
      have := h3.mp rfl
      simp only [if_true, h1, h2]
      exact ⟨fun x => x.elim (fun x => .inl ⟨x, this⟩) .inr, fun x => x.elim (fun x => .inl x.1) .inr⟩
    | false =>
      rw [hn] at h3
      have : ¬ G.nul := fun x => by have := h3.mpr x; cases this
      simp only [Bool.false_eq_true, if_false, List.not_mem_nil, false_or, h2]
      exact ⟨.inr, fun x => x.elim (fun x => (this x.2).elim) id⟩
  · simp only
    split
    · exact up_set h.uf.2 k.uf.2
    · exact h.uf
  · refine up_set (fun x hx => ?_) k.ul.2
    split at hx
    · exact h.ul.2 x hx
    · simp at hx
theorem ed_alt {e f : Ed} {E G : GE} (h : EdOk e E) (k : EdOk f G) : EdOk ⟨e.nul || f.nul, setF (e.fst ++ f.fst), setF (e.lst ++ f.lst)⟩ (altE E G) := by
  refine ⟨?_, fun t => ?_, fun t => ?_, up_set h.uf.2 k.uf.2, up_set h.ul.2 k.ul.2⟩
  · simp only [Bool.or_eq_true, h.nul, k.nul, altE]
  · simp only [mem_setF, List.mem_append, h.fst, k.fst, altE]
  · simp only [mem_setF, List.mem_append, h.lst, k.lst, altE]
theorem ed_congr {e : Ed} {E G : GE} (h : EdOk e E) (hn : E.nul ↔ G.nul) (h1 : ∀ t, E.fst t ↔ G.fst t) (h2 : ∀ t, E.lst t ↔ G.lst t) : EdOk e G :=
  ⟨h.nul.trans hn, fun t => (h.fst t).trans (h1 t), fun t => (h.lst t).trans (h2 t), h.uf, h.ul⟩
end Go.Rf


/- Own work: a form's net as net.go lays it (plain law, continued). -/
set_option linter.unusedVariables false
set_option linter.unusedSimpArgs false
namespace Go.Rf
open Go.RowKit
structure GsOk (st : Gs) : Prop where
  len : st.fo.length = st.by_.length
  up : ∀ r ∈ st.fo, Up r
theorem gjoin_by : ∀ (es : List Ed) (all : Ed) (st : Gs), (gjoin es all st).2.by_ = st.by_ ∧ (gjoin es all st).2.fo.length = st.fo.length
  | [], all, st => ⟨rfl, rfl⟩
  | e :: es, all, st => by
    obtain ⟨h1, h2⟩ := gjoin_by es ⟨all.nul && e.nul, if all.nul = true then setF (all.fst ++ e.fst) else all.fst, setF ((if e.nul = true then all.lst else []) ++ e.lst)⟩ ⟨st.by_, folF st.fo all.lst e.fst⟩
    rw [gjoin]
    exact ⟨h1, h2.trans (folF_len _ _ _)⟩
theorem gjoin_ok : ∀ (es : List Ed) (ks : List Pat) (b : Nat) (all : Ed) (A : GE) (st : Gs), EdsOk es ks b → EdOk all A → GsOk st → b + cntL ks ≤ st.fo.length → (∀ s, A.lst s → s < st.fo.length) →
    EdOk (gjoin es all st).1 (catE A (geA ks b)) ∧ (∀ r ∈ (gjoin es all st).2.fo, Up r) ∧ ∀ s t, FoR (gjoin es all st).2.fo s t ↔ FoR st.fo s t ∨ crossA ks b s t ∨ (A.lst s ∧ (geA ks b).fst t)
  | [], [], b, all, A, st, _, hA, hst, _, _ => by
    simp only [gjoin, geA, crossA]
    refine ⟨ed_congr hA ?_ (fun t => ?_) (fun t => ?_), hst.up, fun s t => ?_⟩
    · simp [catE, nilE]
    · simp [catE, nilE]
    · simp [catE, nilE]
    · simp [nilE]
  | [], _ :: _, _, _, _, _, h, _, _, _, _ => by simp [EdsOk] at h
  | _ :: _, [], _, _, _, _, h, _, _, _, _ => by simp [EdsOk] at h
  | e :: es, q :: qs, b, all, A, st, h, hA, hst, hl, hlt => by
    simp only [EdsOk] at h
    simp only [cntL] at hl
    have hE := in_P q b
    have hc := ed_cat hA h.1
    have hst' : GsOk ⟨st.by_, folF st.fo all.lst e.fst⟩ := ⟨(folF_len _ _ _).trans hst.len, folF_up _ _ _ hst.up h.1.uf.2⟩
    obtain ⟨i1, i2, i3⟩ := gjoin_ok es qs (b + cntP q) ⟨all.nul && e.nul, if all.nul = true then setF (all.fst ++ e.fst) else all.fst, setF ((if e.nul = true then all.lst else []) ++ e.lst)⟩ (catE A (geP q b)) ⟨st.by_, folF st.fo all.lst e.fst⟩ h.2 hc hst' (by rw [folF_len]; omega) (fun s hs => by
      rw [folF_len]
      rcases hs with ⟨hs, _⟩ | hs
      · exact hlt s hs
      · have := hE.lst s hs; omega)
    simp only [gjoin, geA, crossA]
    refine ⟨ed_congr i1 ?_ (fun t => ?_) (fun t => ?_), i2, fun s t => ?_⟩
    · simp only [catE, and_assoc]
    · simp only [catE]
      constructor
      · rintro ((h | ⟨h1, h2⟩) | ⟨⟨h1, h2⟩, h3⟩)
        · exact .inl h
        · exact .inr ⟨h1, .inl h2⟩
        · exact .inr ⟨h1, .inr ⟨h2, h3⟩⟩
      · rintro (h | ⟨h1, h2 | ⟨h2, h3⟩⟩)
        · exact .inl (.inl h)
        · exact .inl (.inr ⟨h1, h2⟩)
        · exact .inr ⟨⟨h1, h2⟩, h3⟩
    · simp only [catE]
      constructor
      · rintro (⟨⟨h1, h2⟩ | h1, h3⟩ | h)
        · exact .inl ⟨h1, h2, h3⟩
        · exact .inr (.inl ⟨h1, h3⟩)
        · exact .inr (.inr h)
      · rintro (⟨h1, h2, h3⟩ | ⟨h1, h3⟩ | h)
        · exact .inl ⟨.inl ⟨h1, h2⟩, h3⟩
        · exact .inl ⟨.inr h1, h3⟩
        · exact .inr h
    · rw [i3, folF_mem _ _ _ hA.ul.2]
      have e1 := hA.lst s
      have e2 := h.1.fst t
      rw [e1, e2]
      simp only [catE]
      constructor
      · rintro ((h | ⟨h1, h2, h3⟩) | h | ⟨⟨h1, h2⟩ | h1, h3⟩)
        · exact .inl h
        · exact .inr (.inr ⟨h1, .inl h3⟩)
        · exact .inr (.inl (.inr h))
        · exact .inr (.inr ⟨h1, .inr ⟨h2, h3⟩⟩)
        · exact .inr (.inl (.inl ⟨h1, h3⟩))
      · rintro (h | (⟨h1, h3⟩ | h) | ⟨h1, h2 | ⟨h2, h3⟩⟩)
        · exact .inl (.inl h)
        · exact .inr (.inr ⟨.inr h1, h3⟩)
        · exact .inr (.inl h)
        · exact .inl (.inr ⟨h1, hlt s h1, h2⟩)
        · exact .inr (.inr ⟨.inl ⟨h1, h2⟩, h3⟩)
theorem geither_ok : ∀ (es : List Ed) (ks : List Pat) (b : Nat) (all : Ed) (A : GE), EdsOk es ks b → EdOk all A → EdOk (geither es all) (altE A (geO ks b))
  | [], [], b, all, A, _, hA => by
    simp only [geither, geO]
    exact ed_congr hA (by simp [altE, noE]) (fun t => by simp [altE, noE]) (fun t => by simp [altE, noE])
  | [], _ :: _, _, _, _, h, _ => by simp [EdsOk] at h
  | _ :: _, [], _, _, _, h, _ => by simp [EdsOk] at h
  | e :: es, q :: qs, b, all, A, h, hA => by
    simp only [EdsOk] at h
    simp only [geither, geO]
    exact ed_congr (geither_ok es qs (b + cntP q) _ _ h.2 (ed_alt hA h.1)) (by simp only [altE, or_assoc]) (fun t => by simp only [altE, or_assoc]) (fun t => by simp only [altE, or_assoc])
mutual
/-- The signs of a form's places. -/
def lvP (sg : Int) : Pat → List (List Int)
  | .mk k _ g ks => if k = 1 then [] else if k = 2 then [leafF sg g] else lvL sg ks
def lvL (sg : Int) : List Pat → List (List Int)
  | [] => []
  | q :: qs => lvP sg q ++ lvL sg qs
end
structure FormOk (sg : Int) (p : Pat) (st : Gs) (r : Ed × Gs) : Prop where
  by_ : r.2.by_ = st.by_ ++ lvP sg p
  len : (lvP sg p).length = cntP p
  ok : GsOk r.2
  ed : EdOk r.1 (geP p st.by_.length)
  fo : ∀ s t, FoR r.2.fo s t ↔ FoR st.fo s t ∨ (geP p st.by_.length).fol s t
structure EachOk (sg : Int) (ks : List Pat) (st : Gs) (r : List Ed × Gs) : Prop where
  by_ : r.2.by_ = st.by_ ++ lvL sg ks
  len : (lvL sg ks).length = cntL ks
  ok : GsOk r.2
  eds : EdsOk r.1 ks st.by_.length
  fo : ∀ s t, FoR r.2.fo s t ↔ FoR st.fo s t ∨ geW ks st.by_.length s t
theorem ed_nil : EdOk ⟨true, [], []⟩ nilE := ⟨by simp [nilE], by simp [nilE], by simp [nilE], up_nil, up_nil⟩
theorem ed_no : EdOk ⟨false, [], []⟩ noE := ⟨by simp [noE], by simp [noE], by simp [noE], up_nil, up_nil⟩
theorem folF_keep : ∀ (ss : List Int) (fo : List (List Int)) (be : List Int) (s t : Nat), FoR fo s t → FoR (folF fo ss be) s t
  | [], fo, be, s, t, h => h
  | x :: ss, fo, be, s, t, h => by
    refine folF_keep ss _ be s t ?_
    unfold FoR at h ⊢
    rw [List.getD_eq_getElem?_getD, List.getElem?_set]
    by_cases e : x.toNat = s
    · rw [if_pos e]
      by_cases hl : s < fo.length
      · rw [if_pos (by omega), Option.getD_some, mem_setF, List.mem_append, e]
        exact .inl h
      · rw [List.getD_eq_getElem?_getD, List.getElem?_eq_none (by omega)] at h
        simp at h
    · rw [if_neg e, ← List.getD_eq_getElem?_getD]; exact h
theorem gone_keep (es : List Ed) (k : Int) (st : Gs) (s t : Nat) (h : FoR st.fo s t) : FoR (gone es k st).2.fo s t := by
  match es with
  | [] => exact h
  | [e] =>
    simp only [gone]
    split
    · split
      · exact h
      · exact folF_keep _ _ _ s t h
    · exact h
  | _ :: _ :: _ => exact h
theorem gone_ok {es : List Ed} {ks : List Pat} {k : Int} {b : Nat} {st : Gs} (h : EdsOk es ks b) (hst : GsOk st) (hl : b + cntL ks ≤ st.fo.length) :
    (gone es k st).2.by_ = st.by_ ∧ GsOk (gone es k st).2 ∧ EdOk (gone es k st).1 (geG ks k b) ∧ ∀ s t, (FoR st.fo s t → geW ks b s t → True) → (FoR (gone es k st).2.fo s t ∨ geW ks b s t ↔ FoR st.fo s t ∨ (geG ks k b).fol s t ∨ geW ks b s t) := by
  have no : ∀ (st : Gs), GsOk st → st.by_ = st.by_ ∧ GsOk st ∧ EdOk ⟨false, [], []⟩ noE ∧ ∀ s t, (FoR st.fo s t → geW ks b s t → True) → (FoR st.fo s t ∨ geW ks b s t ↔ FoR st.fo s t ∨ noE.fol s t ∨ geW ks b s t) := fun st h =>
    ⟨rfl, h, ed_no, fun s t _ => by simp [noE]⟩
  match es, ks, h with
  | [], [], _ => simp only [gone, geG]; exact ⟨trivial, (no st hst).2⟩
  | [e], [q], h =>
    simp only [EdsOk, and_true] at h
    simp only [gone, geG]
    by_cases h7 : k = 7
    · subst h7
      rw [if_pos (by omega), if_pos rfl, if_pos rfl]
      refine ⟨rfl, hst, ⟨by simp [maybeE], h.fst, h.lst, h.uf, h.ul⟩, fun s t _ => ?_⟩
      simp only [maybeE, geW, or_false]
      constructor
      · rintro (h | h)
        · exact .inl h
        · exact .inr (.inl h)
      · rintro (h | h | h)
        · exact .inl h
        · exact .inr h
        · exact .inr h
    · by_cases h56 : k = 5 ∨ k = 6
      · rw [if_pos (by omega), if_neg h7, if_neg h7, if_pos h56]
        simp only [cntL, Nat.add_zero] at hl
        refine ⟨rfl, ⟨(folF_len _ _ _).trans hst.len, folF_up _ _ _ hst.up h.uf.2⟩, ⟨?_, h.fst, h.lst, h.uf, h.ul⟩, fun s t _ => ?_⟩
        · simp only [plusE, Bool.or_eq_true, h.nul, decide_eq_true_eq]
        · rw [folF_mem _ _ _ h.ul.2, h.lst, h.fst]
          simp only [plusE, geW, or_false]
          constructor
          · rintro ((h1 | ⟨h1, h2, h3⟩) | h1)
            · exact .inl h1
            · exact .inr (.inl (.inr ⟨h1, h3⟩))
            · exact .inr (.inr h1)
          · rintro (h1 | (h1 | ⟨h1, h3⟩) | h1)
            · exact .inl (.inl h1)
            · exact .inr h1
            · have := (in_P q b).lst s h1
              exact .inl (.inr ⟨h1, by omega, h3⟩)
            · exact .inr h1
      · rw [if_neg (by omega), if_neg h7, if_neg h56]
        exact no st hst
  | _ :: _ :: _, _ :: _ :: _, _ => simp only [gone, geG]; exact ⟨trivial, (no st hst).2⟩
  | [], _ :: _, h => simp [EdsOk] at h
  | _ :: _, [], h => simp [EdsOk] at h
  | [_], _ :: _ :: _, h => simp [EdsOk] at h
  | _ :: _ :: _, [_], h => simp [EdsOk] at h
mutual
theorem form_ok (sg : Int) : ∀ (p : Pat) (st : Gs), GsOk st → FormOk sg p st (gform sg p st)
  | .mk k r g ks, st, h => by
    simp only [gform]
    by_cases h1 : k = 1
    · have hp : geP (.mk k r g ks) st.by_.length = nilE := by simp only [geP]; rw [if_pos h1]
      rw [if_pos h1]
      refine ⟨by simp [lvP, h1], by simp [lvP, cntP, h1], h, by rw [hp]; exact ed_nil, fun s t => by rw [hp]; simp [nilE]⟩
    rw [if_neg h1]
    by_cases h2 : k = 2
    · have hp : geP (.mk k r g ks) st.by_.length = oneE st.by_.length := by simp only [geP]; rw [if_neg h1, if_pos h2]
      rw [if_pos h2]
      refine ⟨by simp [lvP, h1, h2], by simp [lvP, cntP, h1, h2], ⟨by simp [h.len], fun r hr => ?_⟩, ?_, fun s t => ?_⟩
      · rcases List.mem_append.mp hr with hr | hr
        · exact h.up r hr
        · rw [List.mem_singleton] at hr; subst hr; exact up_nil
      · rw [hp]
        exact ⟨by simp [oneE], fun t => by simp [oneE]; omega, fun t => by simp [oneE]; omega, up_one _, up_one _⟩
      · rw [hp]
        simp only [oneE, or_false]
        unfold FoR
        rw [List.getD_eq_getElem?_getD, List.getD_eq_getElem?_getD]
        by_cases hs : s < st.fo.length
        · rw [List.getElem?_append_left hs]
        · rw [List.getElem?_eq_none (l := st.fo) (by omega), List.getElem?_append_right (by omega)]
          by_cases he : s - st.fo.length = 0
          · rw [he]; simp
          · rw [List.getElem?_eq_none (by simp; omega)]
    rw [if_neg h2]
    have he := each_ok sg ks st h
    have hlv : lvP sg (.mk k r g ks) = lvL sg ks := by simp only [lvP]; rw [if_neg h1, if_neg h2]
    have hcn : cntP (.mk k r g ks) = cntL ks := by simp only [cntP]; rw [if_neg h1, if_neg h2]
    have hlen : st.by_.length + cntL ks ≤ (geach sg ks st).2.fo.length := by
      rw [he.ok.len, he.by_, List.length_append, he.len]; exact Nat.le_refl _
    by_cases h3 : k = 3
    · have hp : geP (.mk k r g ks) st.by_.length = geA ks st.by_.length := by simp only [geP]; rw [if_neg h1, if_neg h2, if_pos h3]
      rw [if_pos h3]
      obtain ⟨j1, j2⟩ := gjoin_by (geach sg ks st).1 ⟨true, [], []⟩ (geach sg ks st).2
      obtain ⟨i1, i2, i3⟩ := gjoin_ok (geach sg ks st).1 ks st.by_.length ⟨true, [], []⟩ nilE (geach sg ks st).2 he.eds ed_nil he.ok hlen (fun s hs => hs.elim)
      refine ⟨by rw [j1, he.by_, hlv], by rw [hlv, hcn]; exact he.len, ⟨by rw [j2, j1]; exact he.ok.len, i2⟩, ?_, fun s t => ?_⟩
      · rw [hp]
        exact ed_congr i1 (by simp [catE, nilE]) (fun t => by simp [catE, nilE]) (fun t => by simp [catE, nilE])
      · rw [i3, he.fo, hp, geA_fol]
        simp only [nilE, false_and, or_false, or_assoc]
    rw [if_neg h3]
    by_cases h4 : k = 4
    · have hp : geP (.mk k r g ks) st.by_.length = geO ks st.by_.length := by simp only [geP]; rw [if_neg h1, if_neg h2, if_neg h3, if_pos h4]
      rw [if_pos h4]
      refine ⟨by rw [he.by_, hlv], by rw [hlv, hcn]; exact he.len, he.ok, ?_, fun s t => ?_⟩
      · rw [hp]
        exact ed_congr (geither_ok _ ks st.by_.length _ noE he.eds ed_no) (by simp [altE, noE]) (fun t => by simp [altE, noE]) (fun t => by simp [altE, noE])
      · rw [he.fo, hp, geO_fol]
    rw [if_neg h4]
    have hp : geP (.mk k r g ks) st.by_.length = ⟨(geG ks k st.by_.length).nul, (geG ks k st.by_.length).fst, (geG ks k st.by_.length).lst, fun s t => (geG ks k st.by_.length).fol s t ∨ geW ks st.by_.length s t⟩ := by
      simp only [geP]; rw [if_neg h1, if_neg h2, if_neg h3, if_neg h4]
    obtain ⟨o1, o2, o3, o4⟩ := gone_ok (k := k) he.eds he.ok hlen
    refine ⟨by rw [o1, he.by_, hlv], by rw [hlv, hcn]; exact he.len, o2, ?_, fun s t => ?_⟩
    · rw [hp]
      exact ⟨o3.nul, o3.fst, o3.lst, o3.uf, o3.ul⟩
    · rw [hp]
      have h5 := o4 s t (fun _ _ => trivial)
      have h6 := he.fo s t
      have h7 : geW ks st.by_.length s t → FoR (gone (geach sg ks st).1 k (geach sg ks st).2).2.fo s t := fun hw => gone_keep _ k _ s t (h6.mpr (.inr hw))
      simp only
      constructor
      · intro hx
        rcases h5.mp (.inl hx) with hx | hx | hx
        · rcases h6.mp hx with hx | hx
          · exact .inl hx
          · exact .inr (.inr hx)
        · exact .inr (.inl hx)
        · exact .inr (.inr hx)
      · rintro (hx | hx | hx)
        · exact (h5.mpr (.inl (h6.mpr (.inl hx)))).elim id h7
        · exact (h5.mpr (.inr (.inl hx))).elim id h7
        · exact h7 hx
theorem each_ok (sg : Int) : ∀ (ks : List Pat) (st : Gs), GsOk st → EachOk sg ks st (geach sg ks st)
  | [], st, h => by
    simp only [geach]
    exact ⟨by simp [lvL], rfl, h, trivial, fun s t => by simp only [geW, or_false]⟩
  | q :: qs, st, h => by
    simp only [geach]
    have f := form_ok sg q st h
    have e := each_ok sg qs (gform sg q st).2 f.ok
    have hb : (gform sg q st).2.by_.length = st.by_.length + cntP q := by rw [f.by_, List.length_append, f.len]
    refine ⟨by rw [e.by_, f.by_]; simp [lvL], by simp [lvL, cntL, f.len, e.len], e.ok, ⟨f.ed, ?_⟩, fun s t => ?_⟩
    · have := e.eds
      rwa [hb] at this
    · simp only
      rw [e.fo, f.fo, hb]
      simp only [geW, or_assoc]
end
end Go.Rf

