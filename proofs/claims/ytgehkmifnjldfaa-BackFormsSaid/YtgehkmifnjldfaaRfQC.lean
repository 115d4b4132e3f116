import Derived.Test.YtgehkmifnjldfaaRfQA
import Derived.Test.YtgehkmifnjldfaaRfQ7
/- Own work: a form's net as net.go lays it (plain law, continued). -/
set_option linter.unusedVariables false
set_option linter.unusedSimpArgs false
namespace Go.Rf
open Go.RowKit
structure GsOk (st : Gs) : Prop where
  len : st.fo.length = st.by_.length
  up : ∀ r ∈ st.fo, Up r
theorem gjoin_by : ∀ (es : List Ed) (all : Ed) (st : Gs), (gjoin es all st).2.by_ = st.by_ ∧ (gjoin es all st).2.fo.length = st.fo.length
  | [], all, st => ⟨rfl, rfl⟩
  | e :: es, all, st => by
    obtain ⟨h1, h2⟩ := gjoin_by es ⟨all.nul && e.nul, if all.nul = true then setF (all.fst ++ e.fst) else all.fst, setF ((if e.nul = true then all.lst else []) ++ e.lst)⟩ ⟨st.by_, folF st.fo all.lst e.fst⟩
    rw [gjoin]
    exact ⟨h1, h2.trans (folF_len _ _ _)⟩
theorem gjoin_ok : ∀ (es : List Ed) (ks : List Pat) (b : Nat) (all : Ed) (A : GE) (st : Gs), EdsOk es ks b → EdOk all A → GsOk st → b + cntL ks ≤ st.fo.length → (∀ s, A.lst s → s < st.fo.length) →
    EdOk (gjoin es all st).1 (catE A (geA ks b)) ∧ (∀ r ∈ (gjoin es all st).2.fo, Up r) ∧ ∀ s t, FoR (gjoin es all st).2.fo s t ↔ FoR st.fo s t ∨ crossA ks b s t ∨ (A.lst s ∧ (geA ks b).fst t)
  | [], [], b, all, A, st, _, hA, hst, _, _ => by
    simp only [gjoin, geA, crossA]
    refine ⟨ed_congr hA ?_ (fun t => ?_) (fun t => ?_), hst.up, fun s t => ?_⟩
    · simp [catE, nilE]
    · simp [catE, nilE]
    · simp [catE, nilE]
    · simp [nilE]
  | [], _ :: _, _, _, _, _, h, _, _, _, _ => by simp [EdsOk] at h
  | _ :: _, [], _, _, _, _, h, _, _, _, _ => by simp [EdsOk] at h
  | e :: es, q :: qs, b, all, A, st, h, hA, hst, hl, hlt => by
    simp only [EdsOk] at h
    simp only [cntL] at hl
    have hE := in_P q b
    have hc := ed_cat hA h.1
    have hst' : GsOk ⟨st.by_, folF st.fo all.lst e.fst⟩ := ⟨(folF_len _ _ _).trans hst.len, folF_up _ _ _ hst.up h.1.uf.2⟩
    obtain ⟨i1, i2, i3⟩ := gjoin_ok es qs (b + cntP q) ⟨all.nul && e.nul, if all.nul = true then setF (all.fst ++ e.fst) else all.fst, setF ((if e.nul = true then all.lst else []) ++ e.lst)⟩ (catE A (geP q b)) ⟨st.by_, folF st.fo all.lst e.fst⟩ h.2 hc hst' (by rw [folF_len]; omega) (fun s hs => by
      rw [folF_len]
      rcases hs with ⟨hs, _⟩ | hs
      · exact hlt s hs
      · have := hE.lst s hs; omega)
    simp only [gjoin, geA, crossA]
    refine ⟨ed_congr i1 ?_ (fun t => ?_) (fun t => ?_), i2, fun s t => ?_⟩
    · simp only [catE, and_assoc]
    · simp only [catE]
      constructor
      · rintro ((h | ⟨h1, h2⟩) | ⟨⟨h1, h2⟩, h3⟩)
        · exact .inl h
        · exact .inr ⟨h1, .inl h2⟩
        · exact .inr ⟨h1, .inr ⟨h2, h3⟩⟩
      · rintro (h | ⟨h1, h2 | ⟨h2, h3⟩⟩)
        · exact .inl (.inl h)
        · exact .inl (.inr ⟨h1, h2⟩)
        · exact .inr ⟨⟨h1, h2⟩, h3⟩
    · simp only [catE]
      constructor
      · rintro (⟨⟨h1, h2⟩ | h1, h3⟩ | h)
        · exact .inl ⟨h1, h2, h3⟩
        · exact .inr (.inl ⟨h1, h3⟩)
        · exact .inr (.inr h)
      · rintro (⟨h1, h2, h3⟩ | ⟨h1, h3⟩ | h)
        · exact .inl ⟨.inl ⟨h1, h2⟩, h3⟩
        · exact .inl ⟨.inr h1, h3⟩
        · exact .inr h
    · rw [i3, folF_mem _ _ _ hA.ul.2]
      have e1 := hA.lst s
      have e2 := h.1.fst t
      rw [e1, e2]
      simp only [catE]
      constructor
      · rintro ((h | ⟨h1, h2, h3⟩) | h | ⟨⟨h1, h2⟩ | h1, h3⟩)
        · exact .inl h
        · exact .inr (.inr ⟨h1, .inl h3⟩)
        · exact .inr (.inl (.inr h))
        · exact .inr (.inr ⟨h1, .inr ⟨h2, h3⟩⟩)
        · exact .inr (.inl (.inl ⟨h1, h3⟩))
      · rintro (h | (⟨h1, h3⟩ | h) | ⟨h1, h2 | ⟨h2, h3⟩⟩)
        · exact .inl (.inl h)
        · exact .inr (.inr ⟨.inr h1, h3⟩)
        · exact .inr (.inl h)
        · exact .inl (.inr ⟨h1, hlt s h1, h2⟩)
        · exact .inr (.inr ⟨.inl ⟨h1, h2⟩, h3⟩)
theorem geither_ok : ∀ (es : List Ed) (ks : List Pat) (b : Nat) (all : Ed) (A : GE), EdsOk es ks b → EdOk all A → EdOk (geither es all) (altE A (geO ks b))
  | [], [], b, all, A, _, hA => by
    simp only [geither, geO]
    exact ed_congr hA (by simp [altE, noE]) (fun t => by simp [altE, noE]) (fun t => by simp [altE, noE])
  | [], _ :: _, _, _, _, h, _ => by simp [EdsOk] at h
  | _ :: _, [], _, _, _, h, _ => by simp [EdsOk] at h
  | e :: es, q :: qs, b, all, A, h, hA => by
    simp only [EdsOk] at h
    simp only [geither, geO]
    exact ed_congr (geither_ok es qs (b + cntP q) _ _ h.2 (ed_alt hA h.1)) (by simp only [altE, or_assoc]) (fun t => by simp only [altE, or_assoc]) (fun t => by simp only [altE, or_assoc])
mutual
/-- The signs of a form's places. -/
def lvP (sg : Int) : Pat → List (List Int)
  | .mk k _ g ks => if k = 1 then [] else if k = 2 then [leafF sg g] else lvL sg ks
def lvL (sg : Int) : List Pat → List (List Int)
  | [] => []
  | q :: qs => lvP sg q ++ lvL sg qs
end
structure FormOk (sg : Int) (p : Pat) (st : Gs) (r : Ed × Gs) : Prop where
  by_ : r.2.by_ = st.by_ ++ lvP sg p
  len : (lvP sg p).length = cntP p
  ok : GsOk r.2
  ed : EdOk r.1 (geP p st.by_.length)
  fo : ∀ s t, FoR r.2.fo s t ↔ FoR st.fo s t ∨ (geP p st.by_.length).fol s t
structure EachOk (sg : Int) (ks : List Pat) (st : Gs) (r : List Ed × Gs) : Prop where
  by_ : r.2.by_ = st.by_ ++ lvL sg ks
  len : (lvL sg ks).length = cntL ks
  ok : GsOk r.2
  eds : EdsOk r.1 ks st.by_.length
  fo : ∀ s t, FoR r.2.fo s t ↔ FoR st.fo s t ∨ geW ks st.by_.length s t
theorem ed_nil : EdOk ⟨true, [], []⟩ nilE := ⟨by simp [nilE], by simp [nilE], by simp [nilE], up_nil, up_nil⟩
theorem ed_no : EdOk ⟨false, [], []⟩ noE := ⟨by simp [noE], by simp [noE], by simp [noE], up_nil, up_nil⟩
theorem folF_keep : ∀ (ss : List Int) (fo : List (List Int)) (be : List Int) (s t : Nat), FoR fo s t → FoR (folF fo ss be) s t
  | [], fo, be, s, t, h => h
  | x :: ss, fo, be, s, t, h => by
    refine folF_keep ss _ be s t ?_
    unfold FoR at h ⊢
    rw [List.getD_eq_getElem?_getD, List.getElem?_set]
    by_cases e : x.toNat = s
    · rw [if_pos e]
      by_cases hl : s < fo.length
      · rw [if_pos (by omega), Option.getD_some, mem_setF, List.mem_append, e]
        exact .inl h
      · rw [List.getD_eq_getElem?_getD, List.getElem?_eq_none (by omega)] at h
        simp at h
    · rw [if_neg e, ← List.getD_eq_getElem?_getD]; exact h
theorem gone_keep (es : List Ed) (k : Int) (st : Gs) (s t : Nat) (h : FoR st.fo s t) : FoR (gone es k st).2.fo s t := by
  match es with
  | [] => exact h
  | [e] =>
    simp only [gone]
    split
    · split
      · exact h
      · exact folF_keep _ _ _ s t h
    · exact h
  | _ :: _ :: _ => exact h
theorem gone_ok {es : List Ed} {ks : List Pat} {k : Int} {b : Nat} {st : Gs} (h : EdsOk es ks b) (hst : GsOk st) (hl : b + cntL ks ≤ st.fo.length) :
    (gone es k st).2.by_ = st.by_ ∧ GsOk (gone es k st).2 ∧ EdOk (gone es k st).1 (geG ks k b) ∧ ∀ s t, (FoR st.fo s t → geW ks b s t → True) → (FoR (gone es k st).2.fo s t ∨ geW ks b s t ↔ FoR st.fo s t ∨ (geG ks k b).fol s t ∨ geW ks b s t) := by
  have no : ∀ (st : Gs), GsOk st → st.by_ = st.by_ ∧ GsOk st ∧ EdOk ⟨false, [], []⟩ noE ∧ ∀ s t, (FoR st.fo s t → geW ks b s t → True) → (FoR st.fo s t ∨ geW ks b s t ↔ FoR st.fo s t ∨ noE.fol s t ∨ geW ks b s t) := fun st h =>
    ⟨rfl, h, ed_no, fun s t _ => by simp [noE]⟩
  match es, ks, h with
  | [], [], _ => simp only [gone, geG]; exact ⟨trivial, (no st hst).2⟩
  | [e], [q], h =>
    simp only [EdsOk, and_true] at h
    simp only [gone, geG]
    by_cases h7 : k = 7
    · subst h7
      rw [if_pos (by omega), if_pos rfl, if_pos rfl]
      refine ⟨rfl, hst, ⟨by simp [maybeE], h.fst, h.lst, h.uf, h.ul⟩, fun s t _ => ?_⟩
      simp only [maybeE, geW, or_false]
      constructor
      · rintro (h | h)
        · exact .inl h
        · exact .inr (.inl h)
      · rintro (h | h | h)
        · exact .inl h
        · exact .inr h
        · exact .inr h
    · by_cases h56 : k = 5 ∨ k = 6
      · rw [if_pos (by omega), if_neg h7, if_neg h7, if_pos h56]
        simp only [cntL, Nat.add_zero] at hl
        refine ⟨rfl, ⟨(folF_len _ _ _).trans hst.len, folF_up _ _ _ hst.up h.uf.2⟩, ⟨?_, h.fst, h.lst, h.uf, h.ul⟩, fun s t _ => ?_⟩
        · simp only [plusE, Bool.or_eq_true, h.nul, decide_eq_true_eq]
        · rw [folF_mem _ _ _ h.ul.2, h.lst, h.fst]
          simp only [plusE, geW, or_false]
          constructor
          · rintro ((h1 | ⟨h1, h2, h3⟩) | h1)
            · exact .inl h1
            · exact .inr (.inl (.inr ⟨h1, h3⟩))
            · exact .inr (.inr h1)
          · rintro (h1 | (h1 | ⟨h1, h3⟩) | h1)
            · exact .inl (.inl h1)
            · exact .inr h1
            · have := (in_P q b).lst s h1
              exact .inl (.inr ⟨h1, by omega, h3⟩)
            · exact .inr h1
      · rw [if_neg (by omega), if_neg h7, if_neg h56]
        exact no st hst
  | _ :: _ :: _, _ :: _ :: _, _ => simp only [gone, geG]; exact ⟨trivial, (no st hst).2⟩
  | [], _ :: _, h => simp [EdsOk] at h
  | _ :: _, [], h => simp [EdsOk] at h
  | [_], _ :: _ :: _, h => simp [EdsOk] at h
  | _ :: _ :: _, [_], h => simp [EdsOk] at h
mutual
theorem form_ok (sg : Int) : ∀ (p : Pat) (st : Gs), GsOk st → FormOk sg p st (gform sg p st)
  | .mk k r g ks, st, h => by
    simp only [gform]
    by_cases h1 : k = 1
    · have hp : geP (.mk k r g ks) st.by_.length = nilE := by simp only [geP]; rw [if_pos h1]
      rw [if_pos h1]
      refine ⟨by simp [lvP, h1], by simp [lvP, cntP, h1], h, by rw [hp]; exact ed_nil, fun s t => by rw [hp]; simp [nilE]⟩
    rw [if_neg h1]
    by_cases h2 : k = 2
    · have hp : geP (.mk k r g ks) st.by_.length = oneE st.by_.length := by simp only [geP]; rw [if_neg h1, if_pos h2]
      rw [if_pos h2]
      refine ⟨by simp [lvP, h1, h2], by simp [lvP, cntP, h1, h2], ⟨by simp [h.len], fun r hr => ?_⟩, ?_, fun s t => ?_⟩
      · rcases List.mem_append.mp hr with hr | hr
        · exact h.up r hr
        · rw [List.mem_singleton] at hr; subst hr; exact up_nil
      · rw [hp]
        exact ⟨by simp [oneE], fun t => by simp [oneE]; omega, fun t => by simp [oneE]; omega, up_one _, up_one _⟩
      · rw [hp]
        simp only [oneE, or_false]
        unfold FoR
        rw [List.getD_eq_getElem?_getD, List.getD_eq_getElem?_getD]
        by_cases hs : s < st.fo.length
        · rw [List.getElem?_append_left hs]
        · rw [List.getElem?_eq_none (l := st.fo) (by omega), List.getElem?_append_right (by omega)]
          by_cases he : s - st.fo.length = 0
          · rw [he]; simp
          · rw [List.getElem?_eq_none (by simp; omega)]
    rw [if_neg h2]
    have he := each_ok sg ks st h
    have hlv : lvP sg (.mk k r g ks) = lvL sg ks := by simp only [lvP]; rw [if_neg h1, if_neg h2]
    have hcn : cntP (.mk k r g ks) = cntL ks := by simp only [cntP]; rw [if_neg h1, if_neg h2]
    have hlen : st.by_.length + cntL ks ≤ (geach sg ks st).2.fo.length := by
      rw [he.ok.len, he.by_, List.length_append, he.len]; exact Nat.le_refl _
    by_cases h3 : k = 3
    · have hp : geP (.mk k r g ks) st.by_.length = geA ks st.by_.length := by simp only [geP]; rw [if_neg h1, if_neg h2, if_pos h3]
      rw [if_pos h3]
      obtain ⟨j1, j2⟩ := gjoin_by (geach sg ks st).1 ⟨true, [], []⟩ (geach sg ks st).2
      obtain ⟨i1, i2, i3⟩ := gjoin_ok (geach sg ks st).1 ks st.by_.length ⟨true, [], []⟩ nilE (geach sg ks st).2 he.eds ed_nil he.ok hlen (fun s hs => hs.elim)
      refine ⟨by rw [j1, he.by_, hlv], by rw [hlv, hcn]; exact he.len, ⟨by rw [j2, j1]; exact he.ok.len, i2⟩, ?_, fun s t => ?_⟩
      · rw [hp]
        exact ed_congr i1 (by simp [catE, nilE]) (fun t => by simp [catE, nilE]) (fun t => by simp [catE, nilE])
      · rw [i3, he.fo, hp, geA_fol]
        simp only [nilE, false_and, or_false, or_assoc]
    rw [if_neg h3]
    by_cases h4 : k = 4
    · have hp : geP (.mk k r g ks) st.by_.length = geO ks st.by_.length := by simp only [geP]; rw [if_neg h1, if_neg h2, if_neg h3, if_pos h4]
      rw [if_pos h4]
      refine ⟨by rw [he.by_, hlv], by rw [hlv, hcn]; exact he.len, he.ok, ?_, fun s t => ?_⟩
      · rw [hp]
        exact ed_congr (geither_ok _ ks st.by_.length _ noE he.eds ed_no) (by simp [altE, noE]) (fun t => by simp [altE, noE]) (fun t => by simp [altE, noE])
      · rw [he.fo, hp, geO_fol]
    rw [if_neg h4]
    have hp : geP (.mk k r g ks) st.by_.length = ⟨(geG ks k st.by_.length).nul, (geG ks k st.by_.length).fst, (geG ks k st.by_.length).lst, fun s t => (geG ks k st.by_.length).fol s t ∨ geW ks st.by_.length s t⟩ := by
      simp only [geP]; rw [if_neg h1, if_neg h2, if_neg h3, if_neg h4]
    obtain ⟨o1, o2, o3, o4⟩ := gone_ok (k := k) he.eds he.ok hlen
    refine ⟨by rw [o1, he.by_, hlv], by rw [hlv, hcn]; exact he.len, o2, ?_, fun s t => ?_⟩
    · rw [hp]
      exact ⟨o3.nul, o3.fst, o3.lst, o3.uf, o3.ul⟩
    · rw [hp]
      have h5 := o4 s t (fun _ _ => trivial)
      have h6 := he.fo s t
      have h7 : geW ks st.by_.length s t → FoR (gone (geach sg ks st).1 k (geach sg ks st).2).2.fo s t := fun hw => gone_keep _ k _ s t (h6.mpr (.inr hw))
      simp only
      constructor
      · intro hx
        rcases h5.mp (.inl hx) with hx | hx | hx
        · rcases h6.mp hx with hx | hx
          · exact .inl hx
          · exact .inr (.inr hx)
        · exact .inr (.inl hx)
        · exact .inr (.inr hx)
      · rintro (hx | hx | hx)
        · exact (h5.mpr (.inl (h6.mpr (.inl hx)))).elim id h7
        · exact (h5.mpr (.inr (.inl hx))).elim id h7
        · exact h7 hx
theorem each_ok (sg : Int) : ∀ (ks : List Pat) (st : Gs), GsOk st → EachOk sg ks st (geach sg ks st)
  | [], st, h => by
    simp only [geach]
    exact ⟨by simp [lvL], rfl, h, trivial, fun s t => by simp only [geW, or_false]⟩
  | q :: qs, st, h => by
    simp only [geach]
    have f := form_ok sg q st h
    have e := each_ok sg qs (gform sg q st).2 f.ok
    have hb : (gform sg q st).2.by_.length = st.by_.length + cntP q := by rw [f.by_, List.length_append, f.len]
    refine ⟨by rw [e.by_, f.by_]; simp [lvL], by simp [lvL, cntL, f.len, e.len], e.ok, ⟨f.ed, ?_⟩, fun s t => ?_⟩
    · have := e.eds
      rwa [hb] at this
    · simp only
      rw [e.fo, f.fo, hb]
      simp only [geW, or_assoc]
end
end Go.Rf


/- Own work: the net of a form, as net.Of makes it; what it accepts (plain law). -/
set_option linter.unusedVariables false
set_option linter.unusedSimpArgs false
namespace Go.Rf
open Go.RowKit
def st0 : Gs := ⟨[[]], [[]]⟩
theorem st0_ok : GsOk st0 := ⟨rfl, fun r hr => by simp [st0] at hr; subst hr; exact up_nil⟩
def netOf (p : Pat) (sg : Int) : Net :=
  ⟨sg, (gform sg p st0).2.by_, (gform sg p st0).2.fo.set 0 (gform sg p st0).1.fst, if (gform sg p st0).1.nul = true then setF ((gform sg p st0).1.lst ++ [0]) else (gform sg p st0).1.lst⟩
theorem leaf_rises (sg : Int) (g : List Int) : RisesP (leafF sg g) 0 sg := ⟨setF_pw _, fun x hx => by
  have := List.mem_filter.mp (mem_setF.mp hx)
  simpa using this.2⟩
mutual
theorem lvP_rises (sg : Int) : ∀ (p : Pat), ∀ r ∈ lvP sg p, RisesP r 0 sg
  | .mk k _ g ks, r, hr => by
    simp only [lvP] at hr
    split at hr
    · simp at hr
    · split at hr
      · rw [List.mem_singleton] at hr; subst hr; exact leaf_rises sg g
      · exact lvL_rises sg ks r hr
theorem lvL_rises (sg : Int) : ∀ (ks : List Pat), ∀ r ∈ lvL sg ks, RisesP r 0 sg
  | [], r, hr => by simp [lvL] at hr
  | q :: qs, r, hr => by
    simp only [lvL] at hr
    rcases List.mem_append.mp hr with hr | hr
    · exact lvP_rises sg q r hr
    · exact lvL_rises sg qs r hr
end
theorem netOf_by (p : Pat) (sg : Int) : (netOf p sg).by_ = [] :: lvP sg p ∧ (netOf p sg).by_.length = 1 + cntP p ∧ (netOf p sg).follow.length = 1 + cntP p := by
  have f := form_ok sg p st0 st0_ok
  have h1 : (netOf p sg).by_ = [] :: lvP sg p := f.by_
  have h2 : (netOf p sg).by_.length = 1 + cntP p := by rw [h1, List.length_cons, f.len]; omega
  refine ⟨h1, h2, ?_⟩
  show ((gform sg p st0).2.fo.set 0 _).length = _
  rw [List.length_set, f.ok.len]
  exact h2
theorem netOf_ok {p : Pat} {sg : Int} (h1 : 1 ≤ sg) (h2 : sg ≤ 400) (hc : cntP p ≤ 300) : NetOf (netOf p sg) (geP p 1) := by
  have f := form_ok sg p st0 st0_ok
  have hI := in_P p 1
  obtain ⟨hb, hbl, hfl⟩ := netOf_by p sg
  have hb1 : st0.by_.length = 1 := rfl
  have hed := f.ed
  rw [hb1] at hed
  have hfo := fun s t => f.fo s t
  have hz : ∀ s t, ¬ FoR st0.fo s t := fun s t => by
    unfold FoR st0
    cases s with
    | zero => simp
    | succ s => simp
  have hl0 : 0 < (gform sg p st0).2.fo.length := by
    have : (netOf p sg).follow.length = (gform sg p st0).2.fo.length := List.length_set ..
    omega
  have f0 : ∀ t : Nat, (t : Int) ∈ (netOf p sg).follow.getD 0 [] ↔ (geP p 1).fst t := fun t => by
    show (t : Int) ∈ ((gform sg p st0).2.fo.set 0 (gform sg p st0).1.fst).getD 0 [] ↔ _
    rw [List.getD_eq_getElem?_getD, List.getElem?_set, if_pos rfl, if_pos hl0, Option.getD_some]
    exact hed.fst t
  have fs : ∀ s t : Nat, 1 ≤ s → ((t : Int) ∈ (netOf p sg).follow.getD s [] ↔ (geP p 1).fol s t) := fun s t hs => by
    show (t : Int) ∈ ((gform sg p st0).2.fo.set 0 (gform sg p st0).1.fst).getD s [] ↔ _
    rw [List.getD_eq_getElem?_getD, List.getElem?_set, if_neg (by omega), ← List.getD_eq_getElem?_getD]
    have := hfo s t
    rw [hb1] at this
    exact this.trans ⟨fun h => h.elim (fun h => (hz s t h).elim) id, .inr⟩
  have hlast : ∀ q : Int, q ∈ (netOf p sg).last ↔ ((geP p 1).nul ∧ q = 0) ∨ q ∈ (gform sg p st0).1.lst := fun q => by
    show q ∈ (if (gform sg p st0).1.nul = true then setF ((gform sg p st0).1.lst ++ [0]) else (gform sg p st0).1.lst) ↔ _
    by_cases hn : (gform sg p st0).1.nul = true
    · rw [if_pos hn, mem_setF, List.mem_append, List.mem_singleton]
      have := hed.nul.mp hn
      exact ⟨fun h => h.elim .inr (fun h => .inl ⟨this, h⟩), fun h => h.elim (fun h => .inr h.2) .inl⟩
    · rw [if_neg hn]
      exact ⟨.inr, fun h => h.elim (fun h => (hn (hed.nul.mpr h.1)).elim) id⟩
  have hlp : ∀ q ∈ (gform sg p st0).1.lst, 1 ≤ q ∧ q < 1 + cntP p := fun q hq => by
    have h0 := hed.ul.2 q hq
    have e : ((q.toNat : Nat) : Int) = q := by omega
    rw [← e] at hq
    have := hI.lst _ ((hed.lst q.toNat).mp hq)
    omega
  refine ⟨⟨h1, h2, by omega, by omega, by omega, by rw [hb]; rfl, ⟨?_, fun q hq => ?_⟩, fun i h => ?_, fun i h => ?_⟩, by rw [hbl]; exact hI, f0, fs, ?_, fun s hs => ?_⟩
  · show (if (gform sg p st0).1.nul = true then setF ((gform sg p st0).1.lst ++ [0]) else (gform sg p st0).1.lst).Pairwise (· < ·)
    split
    · exact setF_pw _
    · exact hed.ul.1
  · rcases (hlast q).mp hq with ⟨_, rfl⟩ | hq
    · omega
    · have := hlp q hq; omega
  · have hm : (netOf p sg).by_[i] ∈ [] :: lvP sg p := by rw [← hb]; exact List.getElem_mem h
    rcases List.mem_cons.mp hm with e | hm
    · rw [e]; exact ⟨by simp, by simp⟩
    · exact lvP_rises sg p _ hm
  · have hrow : (netOf p sg).follow.getD i [] = (netOf p sg).follow[i] := follow_getD h
    have hup : Up (netOf p sg).follow[i] := by
      have hm : (netOf p sg).follow[i] ∈ (gform sg p st0).2.fo.set 0 (gform sg p st0).1.fst := List.getElem_mem h
      rcases List.mem_or_eq_of_mem_set hm with hm | e
      · exact f.ok.up _ hm
      · rw [e]; exact hed.uf
    refine ⟨hup.1, fun x hx => ?_⟩
    have h0 := hup.2 x hx
    have e : ((x.toNat : Nat) : Int) = x := by omega
    rw [← hrow, ← e] at hx
    by_cases hi : i = 0
    · subst hi
      have := hI.fst _ ((f0 x.toNat).mp hx); omega
    · have := hI.fol _ _ ((fs i x.toNat (by omega)).mp hx); omega
  · rw [hlast]
    exact ⟨fun h => h.elim (fun h => h.1) (fun h => by have := hlp 0 h; omega), fun h => .inl ⟨h, rfl⟩⟩
  · rw [hlast]
    rw [← hed.lst s]
    exact ⟨fun h => h.elim (fun h => by omega) id, .inr⟩
/-- A leaf's signs are those that the form names, as far as there are such. -/
def sgS (sg : Int) (l : List Int) (g : List Int) (a b : Int) : Prop := stp l (leafF sg g) a b
mutual
theorem lf_P (sg : Int) (l : List Int) : ∀ (p : Pat) (pre post : List (List Int)), LfP (fun s a e => stp l ((pre ++ lvP sg p ++ post).getD s []) a e) (sgS sg l) p pre.length
  | .mk k _ g ks, pre, post => by
    simp only [LfP]
    refine ⟨fun h2 a e => ?_, fun h1 h2 => ?_⟩
    · subst h2
      have : lvP sg (.mk 2 ‹_› g ks) = [leafF sg g] := by simp [lvP]
      rw [this, List.append_assoc, List.getD_eq_getElem?_getD, List.getElem?_append_right (Nat.le_refl _)]
      simp [sgS]
    · have : lvP sg (.mk k ‹_› g ks) = lvL sg ks := by simp only [lvP]; rw [if_neg h1, if_neg h2]
      rw [this]
      exact lf_L sg l ks pre post
theorem lf_L (sg : Int) (l : List Int) : ∀ (ks : List Pat) (pre post : List (List Int)), LfL (fun s a e => stp l ((pre ++ lvL sg ks ++ post).getD s []) a e) (sgS sg l) ks pre.length
  | [], pre, post => by simp only [LfL]
  | q :: qs, pre, post => by
    simp only [LfL]
    have h1 := lf_P sg l q pre (lvL sg qs ++ post)
    have h2 := lf_L sg l qs (pre ++ lvP sg q) post
    have e1 : pre ++ lvP sg q ++ (lvL sg qs ++ post) = pre ++ lvL sg (q :: qs) ++ post := by simp [lvL]
    have e2 : pre ++ lvP sg q ++ lvL sg qs ++ post = pre ++ lvL sg (q :: qs) ++ post := by simp [lvL]
    have hc : (lvP sg q).length = cntP q := (form_ok sg q st0 st0_ok).len
    rw [e1] at h1
    rw [e2, List.length_append, hc] at h2
    exact ⟨h1, h2⟩
end
mutual
/-- The form without the signs that there aren't. -/
def flP (sg : Int) : Pat → Pat
  | .mk k _ g ks => .mk k [] (leafF sg g) (flL sg ks)
def flL (sg : Int) : List Pat → List Pat
  | [] => []
  | q :: qs => flP sg q :: flL sg qs
end
mutual
theorem mr_fl (sg : Int) (l : List Int) : ∀ (p : Pat) (a b : Int), MR (sgS sg l) p a b ↔ MR (stp l) (flP sg p) a b
  | .mk k r g ks, a, b => by
    simp only [flP, MR]
    by_cases h1 : k = 1
    · rw [if_pos h1, if_pos h1]
    rw [if_neg h1, if_neg h1]
    by_cases h2 : k = 2
    · rw [if_pos h2, if_pos h2]; rfl
    rw [if_neg h2, if_neg h2]
    by_cases h3 : k = 3
    · rw [if_pos h3, if_pos h3]; exact ma_fl sg l ks a b
    rw [if_neg h3, if_neg h3]
    by_cases h4 : k = 4
    · rw [if_pos h4, if_pos h4]; exact mo_fl sg l ks a b
    rw [if_neg h4, if_neg h4]
    by_cases h5 : k = 7 ∨ k = 5 ∨ k = 6
    · rw [if_pos h5, if_pos h5]; exact mg_fl sg l ks k a b
    · rw [if_neg h5, if_neg h5]
theorem ma_fl (sg : Int) (l : List Int) : ∀ (ks : List Pat) (a b : Int), MA (sgS sg l) ks a b ↔ MA (stp l) (flL sg ks) a b
  | [], a, b => by simp only [flL, MA]
  | q :: qs, a, b => by
    simp only [flL, MA]
    exact ⟨fun ⟨m, h1, h2⟩ => ⟨m, (mr_fl sg l q a m).mp h1, (ma_fl sg l qs m b).mp h2⟩, fun ⟨m, h1, h2⟩ => ⟨m, (mr_fl sg l q a m).mpr h1, (ma_fl sg l qs m b).mpr h2⟩⟩
theorem mo_fl (sg : Int) (l : List Int) : ∀ (ks : List Pat) (a b : Int), MO (sgS sg l) ks a b ↔ MO (stp l) (flL sg ks) a b
  | [], a, b => by simp only [flL, MO]
  | q :: qs, a, b => by
    simp only [flL, MO]
    rw [mr_fl sg l q a b, mo_fl sg l qs a b]
theorem mg_fl (sg : Int) (l : List Int) : ∀ (ks : List Pat) (k a b : Int), MG (sgS sg l) ks k a b ↔ MG (stp l) (flL sg ks) k a b
  | [], k, a, b => by simp only [flL, MG]
  | [q], k, a, b => by
    simp only [flL, MG]
    rw [mr_fl sg l q a b, clo_congr (mr_fl sg l q)]
  | _ :: _ :: _, k, a, b => by simp only [flL, MG]
end
/-- What a form's net accepts. -/
theorem net_acc {p : Pat} {sg : Int} (h1 : 1 ≤ sg) (h2 : sg ≤ 400) (hc : cntP p ≤ 300) (l : List Int) : accN (netOf p sg) l = matP (flP sg p) l 0 l.length := by
  have hL := lf_P sg l p [[]] []
  rw [List.append_nil] at hL
  have hb := (netOf_by p sg).1
  have hL' : LfP (sgT (netOf p sg) l) (sgS sg l) p 1 := by
    have : sgT (netOf p sg) l = fun s a e => stp l (([[]] ++ lvP sg p).getD s []) a e := by
      funext s a e
      unfold sgT
      rw [hb]; rfl
    rw [this]; exact hL
  have h3 := (acc_net (netOf_ok h1 h2 hc) l).trans ((acc_P p 1 hL' 0 l.length).trans (mr_fl sg l p 0 l.length))
  have h4 : matP (flP sg p) l 0 l.length = true ↔ MR (stp l) (flP sg p) 0 l.length := matP_MR.trans ⟨fun h => h.2.2, fun h => ⟨by omega, by omega, h⟩⟩
  cases hA : accN (netOf p sg) l <;> cases hB : matP (flP sg p) l 0 l.length <;> simp_all
end Go.Rf

