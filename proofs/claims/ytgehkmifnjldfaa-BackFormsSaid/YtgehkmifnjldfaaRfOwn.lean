import Derived.Test.YtgehkmifnjldfaaRfQC
import Derived.Test.YtgehkmifnjldfaaRfE3
import Derived.Test.YtgehkmifnjldfaaRfR1
/- Own work: the document's way of laying a form's net lays the same one (plain law). -/
set_option linter.unusedVariables false
set_option linter.unusedSimpArgs false
namespace Go.Rf
open Go.RowKit
def catEd (all e : Ed) : Ed := ⟨all.nul && e.nul, if all.nul = true then setF (all.fst ++ e.fst) else all.fst, setF ((if e.nul = true then all.lst else []) ++ e.lst)⟩
def altEd (all e : Ed) : Ed := ⟨all.nul || e.nul, setF (all.fst ++ e.fst), setF (all.lst ++ e.lst)⟩
mutual
def dform (sg : Int) : Pat → Gs → Ed × Gs
  | .mk k _ g ks, st => if k = 1 then (⟨true, [], []⟩, st) else if k = 2 then (⟨false, [(st.by_.length : Int)], [(st.by_.length : Int)]⟩, ⟨st.by_ ++ [leafF sg g], st.fo ++ [[]]⟩)
    else if k = 3 then djoin sg ks ⟨true, [], []⟩ st else if k = 4 then dor sg ks ⟨false, [], []⟩ st else gone (deach sg ks st).1 k (deach sg ks st).2
def deach (sg : Int) : List Pat → Gs → List Ed × Gs
  | [], st => ([], st)
  | q :: qs, st => ((dform sg q st).1 :: (deach sg qs (dform sg q st).2).1, (deach sg qs (dform sg q st).2).2)
def djoin (sg : Int) : List Pat → Ed → Gs → Ed × Gs
  | [], all, st => (all, st)
  | q :: qs, all, st => djoin sg qs (catEd all (dform sg q st).1) ⟨(dform sg q st).2.by_, folF (dform sg q st).2.fo all.lst (dform sg q st).1.fst⟩
def dor (sg : Int) : List Pat → Ed → Gs → Ed × Gs
  | [], all, st => (all, st)
  | q :: qs, all, st => dor sg qs (altEd all (dform sg q st).1) (dform sg q st).2
end
/-- What a form's laying is said to do fixes it. -/
theorem up_ext {l m : List Int} (hl : Up l) (hm : Up m) (h : ∀ t : Nat, (t : Int) ∈ l ↔ (t : Int) ∈ m) : l = m := by
  refine pw_ext hl.1 hm.1 fun x => ?_
  constructor
  · intro hx
    have h0 := hl.2 x hx
    have e : ((x.toNat : Nat) : Int) = x := by omega
    rw [← e] at hx ⊢
    exact (h _).mp hx
  · intro hx
    have h0 := hm.2 x hx
    have e : ((x.toNat : Nat) : Int) = x := by omega
    rw [← e] at hx ⊢
    exact (h _).mpr hx
theorem EdOk.unique {e f : Ed} {E : GE} (h : EdOk e E) (k : EdOk f E) : e = f := by
  have h1 := up_ext h.uf k.uf (fun t => (h.fst t).trans (k.fst t).symm)
  have h2 := up_ext h.ul k.ul (fun t => (h.lst t).trans (k.lst t).symm)
  have h3 : e.nul = f.nul := by
    have := h.nul.trans k.nul.symm
    cases he : e.nul <;> cases hf : f.nul <;> simp_all
  cases e; cases f
  simp_all
theorem gs_ext {s r : Gs} (hs : GsOk s) (hr : GsOk r) (hb : s.by_ = r.by_) (h : ∀ i t, FoR s.fo i t ↔ FoR r.fo i t) : s = r := by
  have hl : s.fo.length = r.fo.length := by rw [hs.len, hr.len, hb]
  have hfo : s.fo = r.fo := by
    apply List.ext_getElem hl
    intro i h1 h2
    refine up_ext (hs.up _ (List.getElem_mem h1)) (hr.up _ (List.getElem_mem h2)) fun t => ?_
    have := h i t
    unfold FoR at this
    rw [List.getD_eq_getElem?_getD, List.getElem?_eq_getElem h1, List.getD_eq_getElem?_getD, List.getElem?_eq_getElem h2] at this
    exact this
  cases s; cases r
  simp_all
theorem FormOk.unique {sg : Int} {p : Pat} {st : Gs} {r q : Ed × Gs} (h : FormOk sg p st r) (k : FormOk sg p st q) : r = q := by
  have h1 := h.ed.unique k.ed
  have h2 := gs_ext h.ok k.ok (h.by_.trans k.by_.symm) (fun i t => (h.fo i t).trans (k.fo i t).symm)
  exact Prod.ext h1 h2
mutual
theorem dform_ok (sg : Int) : ∀ (p : Pat) (st : Gs), GsOk st → FormOk sg p st (dform sg p st)
  | .mk k r g ks, st, h => by
    have hg := form_ok sg (.mk k r g ks) st h
    simp only [gform] at hg
    simp only [dform]
    by_cases h1 : k = 1
    · rw [if_pos h1] at hg ⊢; exact hg
    rw [if_neg h1] at hg ⊢
    by_cases h2 : k = 2
    · rw [if_pos h2] at hg ⊢; exact hg
    rw [if_neg h2] at hg ⊢
    have hlv : lvP sg (.mk k r g ks) = lvL sg ks := by simp only [lvP]; rw [if_neg h1, if_neg h2]
    have hcn : cntP (.mk k r g ks) = cntL ks := by simp only [cntP]; rw [if_neg h1, if_neg h2]
    by_cases h3 : k = 3
    · have hp : geP (.mk k r g ks) st.by_.length = geA ks st.by_.length := by simp only [geP]; rw [if_neg h1, if_neg h2, if_pos h3]
      rw [if_pos h3]
      obtain ⟨i1, i2, i3, i4⟩ := djoin_ok sg ks ⟨true, [], []⟩ nilE st h ed_nil (fun s hs => hs.elim)
      refine ⟨by rw [i1, hlv], hg.len, i2, ?_, fun s t => ?_⟩
      · rw [hp]
        exact ed_congr i3 (by simp [catE, nilE]) (fun t => by simp [catE, nilE]) (fun t => by simp [catE, nilE])
      · rw [i4, hp]
        simp only [nilE, false_and, or_false]
    rw [if_neg h3] at hg ⊢
    by_cases h4 : k = 4
    · have hp : geP (.mk k r g ks) st.by_.length = geO ks st.by_.length := by simp only [geP]; rw [if_neg h1, if_neg h2, if_neg h3, if_pos h4]
      rw [if_pos h4]
      obtain ⟨i1, i2, i3, i4⟩ := dor_ok sg ks ⟨false, [], []⟩ noE st h ed_no
      refine ⟨by rw [i1, hlv], hg.len, i2, ?_, fun s t => ?_⟩
      · rw [hp]
        exact ed_congr i3 (by simp [altE, noE]) (fun t => by simp [altE, noE]) (fun t => by simp [altE, noE])
      · rw [i4, hp, geO_fol]
    rw [if_neg h4] at hg ⊢
    rw [deach_eq sg ks st h]
    exact hg
theorem deach_eq (sg : Int) : ∀ (ks : List Pat) (st : Gs), GsOk st → deach sg ks st = geach sg ks st
  | [], st, h => by simp only [deach, geach]
  | q :: qs, st, h => by
    have e := (dform_ok sg q st h).unique (form_ok sg q st h)
    simp only [deach, geach, e]
    rw [deach_eq sg qs _ (form_ok sg q st h).ok]
theorem djoin_ok (sg : Int) : ∀ (ks : List Pat) (all : Ed) (A : GE) (st : Gs), GsOk st → EdOk all A → (∀ s, A.lst s → s < st.by_.length) →
    (djoin sg ks all st).2.by_ = st.by_ ++ lvL sg ks ∧ GsOk (djoin sg ks all st).2 ∧ EdOk (djoin sg ks all st).1 (catE A (geA ks st.by_.length)) ∧
      ∀ s t, FoR (djoin sg ks all st).2.fo s t ↔ FoR st.fo s t ∨ (geA ks st.by_.length).fol s t ∨ (A.lst s ∧ (geA ks st.by_.length).fst t)
  | [], all, A, st, h, hA, hlt => by
    simp only [djoin, geA, lvL]
    exact ⟨by simp, h, ed_congr hA (by simp [catE, nilE]) (fun t => by simp [catE, nilE]) (fun t => by simp [catE, nilE]), fun s t => by simp [nilE]⟩
  | q :: qs, all, A, st, h, hA, hlt => by
    have f := dform_ok sg q st h
    have hb : (dform sg q st).2.by_.length = st.by_.length + cntP q := by rw [f.by_, List.length_append, f.len]
    have hE := in_P q st.by_.length
    have hst' : GsOk ⟨(dform sg q st).2.by_, folF (dform sg q st).2.fo all.lst (dform sg q st).1.fst⟩ := ⟨(folF_len _ _ _).trans f.ok.len, folF_up _ _ _ f.ok.up f.ed.uf.2⟩
    obtain ⟨i1, i2, i3, i4⟩ := djoin_ok sg qs (catEd all (dform sg q st).1) (catE A (geP q st.by_.length)) ⟨(dform sg q st).2.by_, folF (dform sg q st).2.fo all.lst (dform sg q st).1.fst⟩ hst' (ed_cat hA f.ed) (fun s hs => by
      simp only [hb]
      rcases hs with ⟨hs, _⟩ | hs
      · have := hlt s hs; omega
      · have := hE.lst s hs; omega)
    simp only [hb] at i3 i4
    simp only [djoin, geA, lvL]
    refine ⟨by rw [i1, f.by_]; simp, i2, ed_congr i3 ?_ (fun t => ?_) (fun t => ?_), fun s t => ?_⟩
    · simp only [catE, and_assoc]
    · simp only [catE]
      constructor
      · rintro ((h | ⟨h1, h2⟩) | ⟨⟨h1, h2⟩, h3⟩)
        · exact .inl h
        · exact .inr ⟨h1, .inl h2⟩
        · exact .inr ⟨h1, .inr ⟨h2, h3⟩⟩
      · rintro (h | ⟨h1, h2 | ⟨h2, h3⟩⟩)
        · exact .inl (.inl h)
        · exact .inl (.inr ⟨h1, h2⟩)
        · exact .inr ⟨⟨h1, h2⟩, h3⟩
    · simp only [catE]
      constructor
      · rintro (⟨⟨h1, h2⟩ | h1, h3⟩ | h)
        · exact .inl ⟨h1, h2, h3⟩
        · exact .inr (.inl ⟨h1, h3⟩)
        · exact .inr (.inr h)
      · rintro (⟨h1, h2, h3⟩ | ⟨h1, h3⟩ | h)
        · exact .inl ⟨.inl ⟨h1, h2⟩, h3⟩
        · exact .inl ⟨.inr h1, h3⟩
        · exact .inr h
    · rw [i4, folF_mem _ _ _ hA.ul.2, f.fo, hA.lst s, f.ed.fst t, f.ok.len, hb]
      simp only [catE]
      constructor
      · rintro (((h | h) | ⟨h1, h2, h3⟩) | h | ⟨⟨h1, h2⟩ | h1, h3⟩)
        · exact .inl h
        · exact .inr (.inl (.inl h))
        · exact .inr (.inr ⟨h1, .inl h3⟩)
        · exact .inr (.inl (.inr (.inl h)))
        · exact .inr (.inr ⟨h1, .inr ⟨h2, h3⟩⟩)
        · exact .inr (.inl (.inr (.inr ⟨h1, h3⟩)))
      · rintro (h | (h | h | ⟨h1, h3⟩) | ⟨h1, h2 | ⟨h2, h3⟩⟩)
        · exact .inl (.inl (.inl h))
        · exact .inl (.inl (.inr h))
        · exact .inr (.inl h)
        · exact .inr (.inr ⟨.inr h1, h3⟩)
        · have := hlt s h1
          exact .inl (.inr ⟨h1, by omega, h2⟩)
        · exact .inr (.inr ⟨.inl ⟨h1, h2⟩, h3⟩)
theorem dor_ok (sg : Int) : ∀ (ks : List Pat) (all : Ed) (A : GE) (st : Gs), GsOk st → EdOk all A →
    (dor sg ks all st).2.by_ = st.by_ ++ lvL sg ks ∧ GsOk (dor sg ks all st).2 ∧ EdOk (dor sg ks all st).1 (altE A (geO ks st.by_.length)) ∧
      ∀ s t, FoR (dor sg ks all st).2.fo s t ↔ FoR st.fo s t ∨ geW ks st.by_.length s t
  | [], all, A, st, h, hA => by
    simp only [dor, geO, lvL, geW]
    exact ⟨by simp, h, ed_congr hA (by simp [altE, noE]) (fun t => by simp [altE, noE]) (fun t => by simp [altE, noE]), fun s t => by simp⟩
  | q :: qs, all, A, st, h, hA => by
    have f := dform_ok sg q st h
    have hb : (dform sg q st).2.by_.length = st.by_.length + cntP q := by rw [f.by_, List.length_append, f.len]
    obtain ⟨i1, i2, i3, i4⟩ := dor_ok sg qs (altEd all (dform sg q st).1) (altE A (geP q st.by_.length)) (dform sg q st).2 f.ok (ed_alt hA f.ed)
    rw [hb] at i3 i4
    simp only [dor, geO, lvL, geW]
    refine ⟨by rw [i1, f.by_]; simp, i2, ed_congr i3 (by simp only [altE, or_assoc]) (fun t => by simp only [altE, or_assoc]) (fun t => by simp only [altE, or_assoc]), fun s t => ?_⟩
    rw [i4, f.fo, or_assoc]
end
/-- The document lays the same. -/
theorem dform_eq (sg : Int) (p : Pat) (st : Gs) (h : GsOk st) : dform sg p st = gform sg p st := (dform_ok sg p st h).unique (form_ok sg p st h)
end Go.Rf


/- Own work: the document's way of laying a net: short lists (plain law). -/
set_option linter.unusedVariables false
set_option linter.unusedSimpArgs false
namespace Go.Rf
open Go.RowKit
theorem StN.ok {st : Gs} (h : StN st) : GsOk st := ⟨h.len, fun r hr => (h.rows r hr).1⟩
theorem dform_N (sg : Int) (p : Pat) (st : Gs) (h : StN st) : StN (dform sg p st).2 ∧ EdN (dform sg p st).2.by_.length (dform sg p st).1 ∧ (dform sg p st).2.by_.length = st.by_.length + cntP p := by
  rw [dform_eq sg p st h.ok]; exact gform_N sg p st h
theorem setF_up {l : List Int} (h : Up l) : setF l = l := pw_ext (setF_pw l) h.1 (fun x => mem_setF)
theorem foldPut {l m : List Int} (h : Up l) : m.foldl putF l = setF (l ++ m) := pw_ext (putAll_pw m h.1) (setF_pw _) (fun x => by rw [mem_putAll, mem_setF, List.mem_append])
theorem djoin_snoc (sg : Int) : ∀ (ks : List Pat) (q : Pat) (all : Ed) (st : Gs), djoin sg (ks ++ [q]) all st =
    (catEd (djoin sg ks all st).1 (dform sg q (djoin sg ks all st).2).1, ⟨(dform sg q (djoin sg ks all st).2).2.by_, folF (dform sg q (djoin sg ks all st).2).2.fo (djoin sg ks all st).1.lst (dform sg q (djoin sg ks all st).2).1.fst⟩)
  | [], q, all, st => by simp only [List.nil_append, djoin]
  | k :: ks, q, all, st => by simp only [List.cons_append, djoin]; rw [djoin_snoc sg ks]
theorem dor_snoc (sg : Int) : ∀ (ks : List Pat) (q : Pat) (all : Ed) (st : Gs), dor sg (ks ++ [q]) all st = (altEd (dor sg ks all st).1 (dform sg q (dor sg ks all st).2).1, (dform sg q (dor sg ks all st).2).2)
  | [], q, all, st => by simp only [List.nil_append, dor]
  | k :: ks, q, all, st => by simp only [List.cons_append, dor]; rw [dor_snoc sg ks]
theorem deach_snoc (sg : Int) : ∀ (ks : List Pat) (q : Pat) (st : Gs), (deach sg (ks ++ [q]) st).2 = (dform sg q (deach sg ks st).2).2
  | [], q, st => by simp only [List.nil_append, deach]
  | k :: ks, q, st => by simp only [List.cons_append, deach]; rw [deach_snoc sg ks]
theorem catEd_N {N : Nat} {a e : Ed} (ha : EdN N a) (he : EdN N e) : EdN N (catEd a e) := by
  refine ⟨?_, ?_⟩
  · simp only [catEd]
    split
    · exact ha.f.app he.f
    · exact ha.f
  · simp only [catEd]
    split
    · exact ha.l.app he.l
    · exact UpN.nil.app he.l
theorem altEd_N {N : Nat} {a e : Ed} (ha : EdN N a) (he : EdN N e) : EdN N (altEd a e) := ⟨ha.f.app he.f, ha.l.app he.l⟩
theorem djoin_N (sg : Int) : ∀ (ks : List Pat) (all : Ed) (st : Gs), StN st → EdN st.by_.length all → StN (djoin sg ks all st).2 ∧ EdN (djoin sg ks all st).2.by_.length (djoin sg ks all st).1 ∧ (djoin sg ks all st).2.by_.length = st.by_.length + cntL ks
  | [], all, st, h, ha => by simp only [djoin, cntL]; exact ⟨h, ha, rfl⟩
  | q :: qs, all, st, h, ha => by
    obtain ⟨i1, i2, i3⟩ := dform_N sg q st h
    have ha' : EdN (dform sg q st).2.by_.length all := ha.mono (by omega)
    obtain ⟨j1, j2, j3⟩ := djoin_N sg qs (catEd all (dform sg q st).1) ⟨(dform sg q st).2.by_, folF (dform sg q st).2.fo all.lst (dform sg q st).1.fst⟩ (i1.fol i2.f) (catEd_N ha' i2)
    simp only [djoin, cntL]
    exact ⟨j1, j2, by rw [j3]; simp only; omega⟩
theorem dor_N (sg : Int) : ∀ (ks : List Pat) (all : Ed) (st : Gs), StN st → EdN st.by_.length all → StN (dor sg ks all st).2 ∧ EdN (dor sg ks all st).2.by_.length (dor sg ks all st).1 ∧ (dor sg ks all st).2.by_.length = st.by_.length + cntL ks
  | [], all, st, h, ha => by simp only [dor, cntL]; exact ⟨h, ha, rfl⟩
  | q :: qs, all, st, h, ha => by
    obtain ⟨i1, i2, i3⟩ := dform_N sg q st h
    have ha' : EdN (dform sg q st).2.by_.length all := ha.mono (by omega)
    obtain ⟨j1, j2, j3⟩ := dor_N sg qs (altEd all (dform sg q st).1) (dform sg q st).2 i1 (altEd_N ha' i2)
    simp only [dor, cntL]
    exact ⟨j1, j2, by omega⟩
theorem deach_N (sg : Int) (ks : List Pat) (st : Gs) (h : StN st) : StN (deach sg ks st).2 ∧ (∀ e ∈ (deach sg ks st).1, EdN (deach sg ks st).2.by_.length e) ∧ (deach sg ks st).2.by_.length = st.by_.length + cntL ks := by
  rw [deach_eq sg ks st h.ok]; exact geach_N sg ks st h
theorem cntL_take {ks : List Pat} {k : Nat} (h : k < ks.length) : cntL (ks.take k) + cntP ks[k] ≤ cntL ks := by
  have h1 : cntL (ks.take (k + 1)) ≤ cntL ks := by
    have := cntL_append (ks.take (k + 1)) (ks.drop (k + 1))
    rw [List.take_append_drop] at this; omega
  rw [List.take_add_one, List.getElem?_eq_getElem h] at h1
  simp only [Option.toList_some] at h1
  rw [cntL_append] at h1
  simp only [cntL] at h1; omega
end Go.Rf


/- Own work: lists that are written out, in memory of one's own (they may be written in place). -/
set_option linter.unusedVariables false
set_option linter.unusedSimpArgs false
namespace Go.Rf
open Go.RowKit

def cst : Opd → Option AV
  | .c x => some x
  | .t _ => none
def copO (P : Program) (op : Op) : Option AOp :=
  match op with
  | .buildSlice t m ps => match cparts ps, elemOf3 P t with
    | some qs, some p => match qs.mapM (fun q => (cst q.2).map fun x => (q.1, x)) with
      | some cs => match lfill p.2.1 (List.replicate m p.1) cs with
        | some xs => if 0 < xs.length ∧ m * p.2.1 ≤ 16777216 then some (.app p.2.1 p.2.2 (.c (.sl true [])) (.c (.sl true xs))) else none
        | none => none
      | none => none
    | _, _ => none
  | _ => none
def cOperO (P : Program) (n : Nat) (ops : Array Oper) (o : Oper) : Option AOper :=
  match copO P o.op with
  | some op => if dstOk n o.dst = true then (cguard ops o).map fun g => ⟨o.dst, op, g, none⟩ else none
  | none => cOper P n ops o
theorem cOperO_inv {P : Program} {n : Nat} {ops : Array Oper} {o : Oper} {ao : AOper} (h : cOperO P n ops o = some ao) :
    (∀ d, o.dst = some d → d < n) ∧ ao.dst = o.dst ∧ cguard ops o = some ao.guard ∧ ((∃ p, ao.call = some p ∧ ccl o.op = some p) ∨ (ao.call = none ∧ (cop P o.op = some ao.op ∨ copO P o.op = some ao.op))) := by
  unfold cOperO at h
  split at h
  · rename_i op hop
    split at h
    · rename_i hd
      have hd' : ∀ d, o.dst = some d → d < n := fun d e => by rw [e] at hd; simpa [dstOk] using hd
      simp only [Option.map_eq_some_iff] at h
      obtain ⟨g, h2, rfl⟩ := h
      exact ⟨hd', rfl, h2, .inr ⟨rfl, .inr hop⟩⟩
    · cases h
  · obtain ⟨h1, h2, h3, h4⟩ := cOper_inv h
    exact ⟨h1, h2, h3, h4.imp id fun h => ⟨h.1, .inl h.2⟩⟩
theorem copO_inv {P : Program} {op : Op} {ao : AOp} (h : copO P op = some ao) : ∃ t m ps qs z es by_ cs xs, op = .buildSlice t m ps ∧ cparts ps = some qs ∧ elemOf3 P t = some (z, es, by_) ∧ qs.mapM (fun q => (cst q.2).map fun x => (q.1, x)) = some cs ∧
    lfill es (List.replicate m z) cs = some xs ∧ 0 < xs.length ∧ m * es ≤ 16777216 ∧ ao = .app es by_ (.c (.sl true [])) (.c (.sl true xs)) := by
  unfold copO at h
  split at h
  · rename_i t m ps
    split at h
    · rename_i qs p hq hp
      obtain ⟨z, es, by_⟩ := p
      split at h
      · rename_i cs hc
        split at h
        · rename_i xs hx
          split at h
          · rename_i hh
            cases h
            exact ⟨t, m, ps, qs, z, es, by_, cs, xs, rfl, hq, hp, hc, hx, hh.1, hh.2, rfl⟩
          · cases h
        · cases h
      · cases h
    · cases h
  · cases h
theorem cst_ev {a : AF} : ∀ {qs : List (Nat × Opd)} {cs : List (Nat × AV)}, qs.mapM (fun q => (cst q.2).map fun x => (q.1, x)) = some cs → (qs.map fun q => (q.1, q.2.ev a)) = cs
  | [], cs, h => by simp at h; subst h; rfl
  | (i, x) :: qs, cs, h => by
    simp only [List.mapM_cons, Option.bind_eq_bind, Option.bind_eq_some_iff, Option.pure_def, Option.some.injEq, Option.map_eq_some_iff] at h
    obtain ⟨c, ⟨y, hy, rfl⟩, cs', h2, rfl⟩ := h
    rw [List.map_cons, cst_ev h2]
    cases x with
    | t _ => simp [cst] at hy
    | c z => simp only [cst, Option.some.injEq] at hy; subst hy; simp only [Opd.ev]
theorem copO_nil {P : Program} {op : Op} {ao : AOp} (h : copO P op = some ao) {a : AF} {k : AV → Prop} (hn : nilG ao a k) : False := by
  obtain ⟨t, m, ps, qs, z, es, by_, cs, xs, _, _, _, _, _, _, _, rfl⟩ := copO_inv h
  simp only [nilG] at hn
section
variable {P : Program} {n : Nat} {o : Oper} {a : AF} {S : St} {nid : Nat} {v : AV}
theorem copO_ok (hd : ∀ d, o.dst = some d → d < n) {ao : AOp} (hc : copO P o.op = some ao) {S' : St} (h : (ex ao a).run S nid = some (v, S')) : OpOk P n o a S nid v S' := by
  obtain ⟨t, m, ps, qs, z, es, by_, cs, xs, hop, hq, ht, hcs, hf, hx0, hms, rfl⟩ := copO_inv hc
  have hqc := cst_ev (a := a) hcs
  obtain ⟨e, i, hu, hz, hi, hb⟩ := elemOf3_inv ht
  obtain ⟨_, _, q1, q2, q3, q4, q5, q6, q7⟩ := zeroOf_inv hz
  have hrepl : ∀ x ∈ List.replicate m z, x.cells.length = es := by intro x hx; rw [(List.mem_replicate.mp hx).2]; exact q5
  obtain ⟨f1, f2, f3⟩ := lfill_afill _ _ _ hrepl hf
  have hv : v = .own nid 0 xs.length ∧ S' = S.set nid (some (.arr es xs)) := by
    have h3 : lstE es [] (.sl true xs) = some xs := by simp only [lstE]; rw [if_pos f2]
    have hne : ¬ xs.length = 0 := by omega
    simp only [ex, Opd.ev, exApp, Eff.run, AV.oid, List.mapM_nil, Option.pure_def, h3, Option.bind_some] at h
    by_cases hap : appOk by_ 0 xs.length
    · rw [if_pos ⟨by simp, by simpa using hap⟩, if_neg hne] at h
      simp only [Option.some.injEq, Prod.mk.injEq] at h
      obtain ⟨rfl, rfl⟩ := h
      exact ⟨by simp, by simp [St.setL, St.setO]⟩
    · rw [if_neg (fun hh => hap (by simpa using hh.2))] at h
      cases h
  obtain ⟨rfl, rfl⟩ := hv
  refine OpOk.alloc (f := fun i => .own i 0 xs.length) hd (by rw [hop]; rfl) f2 fun E w act hS hF => ?_
  obtain ⟨i', zv, g1, g2, g3, g4, g5⟩ := zeroOf_rep (E := E) hz
  rw [hi] at g1; cases g1
  obtain ⟨p1, p2⟩ := parts_ok hF hq
  have hl0 := length_flat hrepl
  simp only [List.length_replicate] at hl0
  have hstart : RepL E (flat (List.replicate m z)) ((Array.range (m * es)).map (zv.cells[· % zv.cells.size]!)) := by
    refine ⟨by simp [hl0], ?_, repL_made g4 q5 m m (Nat.le_refl _)⟩
    intro y hy
    obtain ⟨x, hx, hyx⟩ := List.mem_flatMap.mp hy
    rw [(List.mem_replicate.mp hx).2] at hyx
    exact g4.2.1 y hyx
  let ps' := ps.map fun p => (p.1, act.eval p.2)
  obtain ⟨cells', e1, e2⟩ := fill_ok (fun j => some (j * es, es)) ps'.toList ((qs.map fun q => (q.1, q.2.ev a)).map fun p => (p.1 * es, es, p.2)) _ _ _ hstart (by simp [ps']; simpa using p1)
    (fun j hj hj' => by
      simp only [ps', Array.toList_map, List.length_map] at hj hj'
      obtain ⟨a1, a2⟩ := p2 j hj (by omega)
      simp only [ps', Array.toList_map, List.getElem_map]
      exact ⟨by rw [a1], a2⟩) (by rw [hqc]; exact f1)
  have hrun : (execOp act.eval o).run P w = .ok (.value (.slice (some ⟨w.heap.size, 0, none⟩) m m)) (w.alloc (.cells cells' e)) := by
    simp only [execOp, hop]
    by_cases h0 : m * i.size = 0
    · have h00 : m * es = 0 := by rw [← g3]; exact h0
      have e1' : Instr.fill (fun j => some (j * i.size, i.size)) #[] ps'.toList = some cells' := by
        rw [g3, ← e1]; congr 1
        rw [h00]; simp [Array.range_zero']
      simp [Instr.buildSlice, run_underlying hu, run_sizeOf hi, h0, newRow, Array.range_zero']
      have e1'' : Instr.fill (fun j => some (j * i.size, i.size)) #[] (List.map (fun x => (x.1, act.eval x.2)) ps.toList) = some cells' := by simpa [ps'] using e1'
      rw [e1'']; simp
    · have hle : ¬ (m * i.size > 16777216) := by rw [g3]; omega
      have e1'' : Instr.fill (fun j => some (j * i.size, i.size)) ((Array.range (m * i.size)).map (zv.cells[· % zv.cells.size]!)) (List.map (fun x => (x.1, act.eval x.2)) ps.toList) = some cells' := by
        rw [g3]; simpa [ps'] using e1
      simp [Instr.buildSlice, run_underlying hu, run_sizeOf hi, h0, newRow, zeroValue, typeInfo, hi, g2]
      rw [if_neg (by omega)]
      simp [e1'']
  have hxl : xs.length = m := by rw [f3]; simp
  have hfl := length_flat f2
  have hcz : cells'.size = m * es := by rw [e2.1, hfl, hxl]
  refine ⟨_, cells', e, m, w, rfl, hS, .refl _ _ _, hrun, e2.2.1, by omega, by omega, e2.2.2, fun E' he => ?_⟩
  rw [hxl]
  exact .own nid 0 m (some ⟨w.heap.size, 0, none⟩) m _ he (Nat.le_refl _) (fun _ => ⟨by simp, by simp⟩)
end
theorem rg_soundO {P : Program} {n : Nat} {ops : Array Oper} {base : Nat} {Q : Exit → AF → St → Prop} {E0 : Env} {S0 : St} {w0 : World} (hG0 : Gam P E0.H) (hb : S0.n ≤ base) :
    ∀ (os : List AOper) (i : Nat) (a : AF) (S : St), (∀ k (hk : k < os.length), ∃ o, ops[i + k]? = some o ∧ cOperO P n ops o = some (os[k])) → RG P base os i (fun a S => Q .normal a S) a S →
      ∀ E w act, Sim E S w → RepF E n a act → (∀ k, i ≤ k → k < i + os.length → E.ρ (base + k) = none ∧ base + k < S.n) → Ev E0 S0 w0 E S w →
        wpOps P ops (Post E0 S0 w0 n Q) (List.range' i os.length) act w
  | [], i, a, S, _, h, E, w, act, hS, hF, _, hE => ⟨a, S, E, h, hS, hF, hE⟩
  | ao :: os, i, a, S, hc, h, E, w, act, hS, hF, hr, hE => by
    obtain ⟨o, ho, hco⟩ := hc 0 (by simp)
    simp only [Nat.add_zero, List.getElem_cons_zero] at ho hco
    obtain ⟨hd, hdst, hgd, hor⟩ := cOperO_inv hco
    have hc' : ∀ k (hk : k < os.length), ∃ o, ops[i + 1 + k]? = some o ∧ cOperO P n ops o = some (os[k]) := by
      intro k hk
      obtain ⟨o', h1, h2⟩ := hc (k + 1) (by simpa using hk)
      exact ⟨o', by rw [← h1]; congr 1; omega, by simpa using h2⟩
    have hr0 := hr i (Nat.le_refl _) (by simp)
    simp only [List.length_cons, List.range'_succ, wpOps, ho]
    simp only [RG] at h
    split at h
    · exact h.elim
    · rename_i hg
      rw [gd_wanted hF hgd hg]
      simp only [Bool.false_eq_true, if_false]
      rw [hdst] at h
      exact rg_soundO hG0 hb os (i + 1) _ S hc' h E w _ hS (hF.put hd rep_undef) (fun k h1 h2 => hr k (by omega) (by simp; omega)) hE
    · rename_i hg
      rw [gd_wanted hF hgd hg]
      simp only [if_true]
      left
      rw [hdst] at h
      have next : ∀ {r : AV} {S' : St} {act' : Act} {w' : World} {E' : Env}, RG P base os (i + 1) (fun a S => Q .normal a S) (a.put o.dst r) S' → Sim E' S' w' → RepF E' n (a.put o.dst r) act' → Ev E0 S0 w0 E' S' w' →
          (∀ k, i < k → k < i + (os.length + 1) → E'.ρ (base + k) = none ∧ base + k < S'.n) → wpOps P ops (Post E0 S0 w0 n Q) (List.range' (i + 1) os.length) act' w' :=
        fun h1 h2 h3 h4 h5 => rg_soundO hG0 hb os (i + 1) _ _ hc' h1 _ _ _ h2 h3 (fun k a1 a2 => h5 k (by omega) (by omega)) h4
      have hcall : ∀ {f : FuncId} {args : List AV} {vals : Array Value}, CallR P f args S (fun r S' => RG P base os (i + 1) (fun a S => Q .normal a S) (a.put o.dst r) S') → Reps E args vals →
          (execOp act.eval o).run P w = .ok (.enter f vals) w → o.wp P act w (wpOps P ops (Post E0 S0 w0 n Q) (List.range' (i + 1) os.length)) (Post E0 S0 w0 n Q) := by
        intro f args vals h1 h2 h3
        refine callOp_ok hd h1 (hG0.le hE.evo.le) hS hF h2 h3 fun r S' act' w' E' k1 k2 k3 k4 => next k1 k2 k3 (hE.trans k4) fun k a1 a2 => ?_
        obtain ⟨b1, b2⟩ := hr k (by omega) (by simp; omega)
        exact ⟨k4.low _ b2 b1, Nat.lt_of_lt_of_le b2 k4.nle⟩
      rcases hor with ⟨p, hp1, hp2⟩ | ⟨hp1, hop⟩
      · -- a call
        rw [hp1] at h
        obtain ⟨G, xs⟩ := p
        simp only at h
        unfold ccl at hp2
        split at hp2
        · rename_i g ys ts hoo
          simp only [Option.bind_eq_some_iff, Option.map_eq_some_iff, Prod.mk.injEq] at hp2
          obtain ⟨G', hG, XS, hXS, rfl, rfl⟩ := hp2
          have rg := ofOperand_ok hF hG
          split at h
          · rename_i f first cap hclo
            rw [hclo] at rg
            generalize hev : act.eval g = gv at rg
            cases rg with
            | clo _ _ _ fv cv hn hm hf hcc =>
              have hx := reps_operands hF hXS
              have hargs : Reps E (first ++ XS.map (·.ev a) ++ cap) (fv ++ ys.map act.eval ++ cv) := (Reps.append ⟨hn, hf⟩ hx).append ⟨hm, hcc⟩
              refine hcall h hargs ?_
              simp only [execOp, hoo, Sem.run_bind, run_resolve_func act.eval g ys ts o.type hev, Result.andThen_ok, invoke]
              exact run_callFunc h.1 _ _
          · exact h.elim
        · cases hp2
      · rw [hp1] at h
        simp only at h
        split at h
        · rename_i v S' hex
          have hok : OpOk P n o a S (base + i) v S' := hop.elim (fun h1 => cop_ok (P := P) (n := n) (o := o) hd h1 hex) (fun h1 => copO_ok (P := P) (n := n) (o := o) hd h1 hex)
          have hn := Eff.run_n hex
          refine hok E w act hS hF hr0.1 hr0.2 _ _ fun act' w' E' k1 k2 k3 k4 => next h k1 k2 ⟨hE.evo.trans k3, by have := hE.nle; omega, fun id hid e => k4.2 id (by omega) (hE.low id hid e)⟩ fun k a1 a2 => ?_
          · obtain ⟨b1, b2⟩ := hr k (by omega) (by simp; omega)
            exact ⟨k4.2 _ (by omega) b1, by omega⟩
        · have hop : cop P o.op = some ao.op := hop.elim id fun h1 => (copO_nil h1 h).elim
          obtain ⟨b, g1, g2⟩ := nilG_ok hop h hF w
          unfold Oper.wp
          rw [g2, Oper.upon_value]
          exact next g1 hS (hF.put hd (.v _ rfl)) hE fun k a1 a2 => hr k (by omega) (by simp; omega)
/-- As comp, but lists that are written out lie in memory of one's own. -/
def regO (P : Program) (n : Nat) (draw : Bool) (ops : Array Oper) : AC :=
  if draw = true then regC P n draw ops else match ops.toList.mapM (cOperO P n ops) with
    | some os => .reg none os
    | none => .bad
def compO (P : Program) (n : Nat) (c : Code) : Option AC := compG regO P n c
theorem regO_ok {P : Program} (hm : P.follows .mixedOrders = true) {n : Nat} : RegOk P n regO := by
  intro id ops dr Q a S h
  unfold regO at h
  split at h
  · exact regC_ok hm id ops dr Q a S h
  · rename_i hdr
    simp only [Bool.not_eq_true] at hdr
    subst hdr
    split at h
    · rename_i ys hy
      obtain ⟨h1, h2⟩ := mapM_get hy
      have hlen : ys.length = ops.size := by rw [h1]; simp
      intro E w act hG hS hF
      simp only [AW] at h
      refine wp_region ?_
      have := rg_soundO (P := P) (n := n) (ops := ops) (base := S.n) (E0 := E) (S0 := S) (w0 := w) hG (Nat.le_refl _) ys 0 a ⟨S.n + ys.length, S.g⟩ (fun k hk => by
        obtain ⟨o, a1, a2⟩ := h2 k hk
        exact ⟨o, by rw [Nat.zero_add]; simpa using a1, a2⟩) h E w act (hS.drop S.g (fun _ _ e => e) _ (by show S.n ≤ S.n + _; omega)) hF (fun k _ hk => ⟨hS.fresh _ (by omega), by show S.n + k < S.n + ys.length; omega⟩)
        ⟨⟨rfl, rfl, rfl, Nat.le_refl _, fun _ _ _ => rfl, fun id l k hk hl => .inr ⟨id, l, k, hk, hl, rfl⟩, Env.le_refl _, fun _ _ e => .inl e⟩, by show S.n ≤ S.n + _; omega, fun _ _ e => e⟩
      rw [List.range_eq_range', ← hlen]; exact this
    · simp only [AW] at h
theorem leaf_regO {P : Program} {n : Nat} (d : Bool) (ops : Array Oper) : leafAC (regO P n d ops) = true := by
  unfold regO
  split
  · exact leaf_regC d ops
  · split <;> rfl
structure IsO (P : Program) (f : FuncId) (ac : AC) (rs : List RV) (n : Nat) : Prop where
  h : ∃ fn c, P.funcs[f]? = some fn ∧ (fn.name == "runtime.NumGoroutine") = false ∧ fn.body = some c ∧ compO P fn.ntmps c = some ac ∧ fn.results.toList.mapM (rvOf P) = some rs ∧ n ≤ fn.ntmps
theorem IsO.callB {P : Program} (hm : P.follows .mixedOrders = true) {f : FuncId} {ac : AC} {rs : List RV} {n : Nat} (h : IsO P f ac rs n) {args : List AV} (hn : args.length = n) {S : St} {K : AV → St → Prop}
    (hb : AWb P S.n ac (RetNC S.n rs K) (argF args) S) : CallR P f args S K := callB_cell (fun _ => regO_ok hm) (fun _ => leaf_regO) h.h hn hb
theorem IsO.pureB {P : Program} (hm : P.follows .mixedOrders = true) {f : FuncId} {ac : AC} {rs : List RV} {n : Nat} (h : IsO P f ac rs n) {args : List AV} (hn : args.length = n) {r : AV}
    (hb : AWb P 0 ac (RetC rs (FzK r)) (argF args) S0) : PureC P f args r :=
  .of_callR (h.callB hm hn (AWb_mono _ (fun e a S k => ⟨a, S, .refl _ _, k⟩) hb))
end Go.Rf

