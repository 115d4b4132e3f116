import Derived.Test.YtnlhbognechhcaaRfV1
import Derived.Test.YtnlhbognechhcaaRfQB
import Derived.Test.YtnlhbognechhcaaRfSimpS
/- Own work: what a form matches hangs on what lies between; forms turned round. -/
set_option linter.unusedVariables false
set_option linter.unusedSimpArgs false
namespace Go.Rf
open Go.RowKit

theorem clo_hom {r s : Int → Int → Prop} {f : Int → Int} {lo hi : Int} (hle : ∀ a b, r a b → a ≤ b) (h : ∀ a b, lo ≤ a → b ≤ hi → r a b → s (f a) (f b)) {a b : Int} (ha : lo ≤ a) (k : Clo r a b) : b ≤ hi → Clo s (f a) (f b) := by
  induction k with
  | one k => intro hb; exact .one (h _ _ ha hb k)
  | more k1 k2 ih =>
    intro hb
    have h1 := clo_le hle k1
    have h2 := hle _ _ k2
    exact .more (ih (by omega)) (h _ _ (by omega) hb k2)
def Hom (S S' : List Int → Int → Int → Prop) (f : Int → Int) (lo hi : Int) : Prop := ∀ g x y, lo ≤ x → y ≤ hi → S g x y → S' g (f x) (f y)
mutual
theorem MR_hom {S S' : List Int → Int → Int → Prop} (hS : Inc S) {f : Int → Int} {lo hi : Int} (H : Hom S S' f lo hi) : ∀ (p : Pat) (a b : Int), lo ≤ a → b ≤ hi → MR S p a b → MR S' p (f a) (f b)
  | .mk k s g ks, a, b, ha, hb, h => by
    rw [MR] at h ⊢
    by_cases h1 : k = 1
    · rw [if_pos h1] at h ⊢; rw [h]
    · rw [if_neg h1] at h ⊢
      by_cases h2 : k = 2
      · rw [if_pos h2] at h ⊢; exact H g a b ha hb h
      · rw [if_neg h2] at h ⊢
        by_cases h3 : k = 3
        · rw [if_pos h3] at h ⊢; exact MA_hom hS H ks a b ha hb h
        · rw [if_neg h3] at h ⊢
          by_cases h4 : k = 4
          · rw [if_pos h4] at h ⊢; exact MO_hom hS H ks a b ha hb h
          · rw [if_neg h4] at h ⊢
            by_cases h5 : k = 7 ∨ k = 5 ∨ k = 6
            · rw [if_pos h5] at h ⊢; exact MG_hom hS H ks k a b ha hb h
            · rw [if_neg h5] at h; exact h.elim
theorem MA_hom {S S' : List Int → Int → Int → Prop} (hS : Inc S) {f : Int → Int} {lo hi : Int} (H : Hom S S' f lo hi) : ∀ (ks : List Pat) (a b : Int), lo ≤ a → b ≤ hi → MA S ks a b → MA S' ks (f a) (f b)
  | [], a, b, ha, hb, h => by rw [MA] at h ⊢; rw [h]
  | q :: qs, a, b, ha, hb, h => by
    rw [MA] at h ⊢
    obtain ⟨m, h1, h2⟩ := h
    have i1 := MR_inc hS q a m h1
    have i2 := MA_inc hS qs m b h2
    exact ⟨f m, MR_hom hS H q a m ha (by omega) h1, MA_hom hS H qs m b (by omega) hb h2⟩
theorem MO_hom {S S' : List Int → Int → Int → Prop} (hS : Inc S) {f : Int → Int} {lo hi : Int} (H : Hom S S' f lo hi) : ∀ (ks : List Pat) (a b : Int), lo ≤ a → b ≤ hi → MO S ks a b → MO S' ks (f a) (f b)
  | [], a, b, ha, hb, h => by rw [MO] at h; exact h.elim
  | q :: qs, a, b, ha, hb, h => by
    rw [MO] at h ⊢
    rcases h with h | h
    · exact .inl (MR_hom hS H q a b ha hb h)
    · exact .inr (MO_hom hS H qs a b ha hb h)
theorem MG_hom {S S' : List Int → Int → Int → Prop} (hS : Inc S) {f : Int → Int} {lo hi : Int} (H : Hom S S' f lo hi) : ∀ (ks : List Pat) (k a b : Int), lo ≤ a → b ≤ hi → MG S ks k a b → MG S' ks k (f a) (f b)
  | [q], k, a, b, ha, hb, h => by
    rw [MG] at h ⊢
    rcases h with ⟨h1, h2⟩ | h
    · exact .inl ⟨h1, by rw [h2]⟩
    · right
      by_cases h7 : k = 7
      · rw [if_pos h7] at h ⊢; exact MR_hom hS H q a b ha hb h
      · rw [if_neg h7] at h ⊢; exact clo_hom (fun a b h => MR_inc hS q a b h) (fun a b ha hb h => MR_hom hS H q a b ha hb h) ha h hb
  | [], k, a, b, _, _, h => by simp [MG] at h
  | q :: r :: qs, k, a, b, _, _, h => by simp [MG] at h
end
theorem stp_inc (l : List Int) : Inc (stp l) := fun g a b h => by have := h.1; omega
theorem getD_take_drop (l : List Int) (c n : Nat) (k : Nat) (hk : k < n) : ((l.drop c).take n).getD k 0 = l.getD (c + k) 0 := by
  simp only [List.getD_eq_getElem?_getD, List.getElem?_take, hk, if_true, List.getElem?_drop]
theorem len_td (l : List Int) (c n : Nat) (h : c + n ≤ l.length) : ((l.drop c).take n).length = n := by simp; omega
/-- What a form matches between two places is what it matches of what lies between. -/
theorem MR_part {p : Pat} {l : List Int} {c n a b : Nat} (h : c + n ≤ l.length) (hca : c ≤ a) (hb : b ≤ c + n) : MR (stp l) p a b ↔ MR (stp ((l.drop c).take n)) p (a - c) (b - c) := by
  have hl := len_td l c n h
  constructor
  · exact MR_hom (f := fun x => x - c) (lo := a) (hi := b) (stp_inc l) (fun g x y hx hy hs => by
      obtain ⟨h1, h2, h3, h4⟩ := hs
      show stp _ g (x - c) (y - c)
      refine ⟨by omega, by omega, by omega, ?_⟩
      rw [getD_take_drop l c n _ (by omega)]
      have : c + (x - (c : Int)).toNat = x.toNat := by omega
      rw [this]; exact h4) p a b (by omega) (by omega)
  · intro hm
    have := MR_hom (f := fun x => x + c) (lo := (a : Int) - c) (hi := (b : Int) - c) (stp_inc _) (S' := stp l) (fun g x y hx hy hs => by
      obtain ⟨h1, h2, h3, h4⟩ := hs
      show stp _ g (x + c) (y + c)
      refine ⟨by omega, by omega, by omega, ?_⟩
      rw [getD_take_drop l c n _ (by omega)] at h4
      have : c + x.toNat = (x + (c : Int)).toNat := by omega
      rw [← this]; exact h4) p _ _ (by omega) (by omega) hm
    have e1 : (a : Int) - c + c = a := by omega
    have e2 : (b : Int) - c + c = b := by omega
    simp only [e1, e2] at this
    exact this
theorem matP_part (p : Pat) (l : List Int) (a b : Nat) (hab : a ≤ b) (hb : b ≤ l.length) : matP p ((l.drop a).take (b - a)) 0 ((b : Int) - a) = matP p l a b := by
  rw [Bool.eq_iff_iff, matP_MR, matP_MR, MR_part (c := a) (n := b - a) (by omega) (Nat.le_refl _) (by omega), len_td l a (b - a) (by omega)]
  have e : (a : Int) - a = 0 := by omega
  rw [e]
  constructor
  · rintro ⟨h1, h2, h3⟩; exact ⟨by omega, by omega, h3⟩
  · rintro ⟨h1, h2, h3⟩; exact ⟨by omega, by omega, h3⟩
theorem matP_take (p : Pat) (l : List Int) (a b : Nat) (hab : a ≤ b) (hb : b ≤ l.length) : matP p (l.take b) a b = matP p l a b := by
  have := MR_part (p := p) (l := l) (c := 0) (n := b) (a := a) (b := b) (by omega) (by omega) (by omega)
  rw [Bool.eq_iff_iff, matP_MR, matP_MR, this]
  simp only [List.drop_zero, List.length_take, Int.natCast_zero, Int.sub_zero, Int.ofNat_zero]
  constructor
  · rintro ⟨h1, h2, h3⟩; exact ⟨by omega, by omega, by simpa using h3⟩
  · rintro ⟨h1, h2, h3⟩; exact ⟨by omega, by omega, by simpa using h3⟩
/-! ### forms turned round -/
/-! ### the kinds -/
theorem mat_or (p q : Pat) (l : List Int) (i : Int) : matP (.mk 4 [] [] [p, q]) l 0 i = (matP p l 0 i || matP q l 0 i) := by
  rw [Bool.eq_iff_iff, Bool.or_eq_true, matP_MR, matP_MR, matP_MR, MR]
  simp [MO]
end Go.Rf


/- Own work: the net of a form, as net.Of makes it; what it accepts (plain law). -/
set_option linter.unusedVariables false
set_option linter.unusedSimpArgs false
namespace Go.Rf
open Go.RowKit
def st0 : Gs := ⟨[[]], [[]]⟩
theorem st0_ok : GsOk st0 := ⟨rfl, fun r hr => by simp [st0] at hr; subst hr; exact up_nil⟩
def netOf (p : Pat) (sg : Int) : Net :=
  ⟨sg, (gform sg p st0).2.by_, (gform sg p st0).2.fo.set 0 (gform sg p st0).1.fst, if (gform sg p st0).1.nul = true then setF ((gform sg p st0).1.lst ++ [0]) else (gform sg p st0).1.lst⟩
theorem leaf_rises (sg : Int) (g : List Int) : RisesP (leafF sg g) 0 sg := ⟨setF_pw _, fun x hx => by
  have := List.mem_filter.mp (mem_setF.mp hx)
  simpa using this.2⟩
theorem mem_leaf {sg : Int} {g : List Int} {x : Int} : x ∈ leafF sg g ↔ x ∈ g ∧ 0 ≤ x ∧ x < sg := by
  unfold leafF
  rw [mem_setF, List.mem_filter]; simp
mutual
theorem lvP_rises (sg : Int) : ∀ (p : Pat), ∀ r ∈ lvP sg p, RisesP r 0 sg
  | .mk k _ g ks, r, hr => by
    simp only [lvP] at hr
    split at hr
    · simp at hr
    · split at hr
      · rw [List.mem_singleton] at hr; subst hr; exact leaf_rises sg g
      · exact lvL_rises sg ks r hr
theorem lvL_rises (sg : Int) : ∀ (ks : List Pat), ∀ r ∈ lvL sg ks, RisesP r 0 sg
  | [], r, hr => by simp [lvL] at hr
  | q :: qs, r, hr => by
    simp only [lvL] at hr
    rcases List.mem_append.mp hr with hr | hr
    · exact lvP_rises sg q r hr
    · exact lvL_rises sg qs r hr
end
theorem netOf_by (p : Pat) (sg : Int) : (netOf p sg).by_ = [] :: lvP sg p ∧ (netOf p sg).by_.length = 1 + cntP p ∧ (netOf p sg).follow.length = 1 + cntP p := by
  have f := form_ok sg p st0 st0_ok
  have h1 : (netOf p sg).by_ = [] :: lvP sg p := f.by_
  have h2 : (netOf p sg).by_.length = 1 + cntP p := by rw [h1, List.length_cons, f.len]; omega
  refine ⟨h1, h2, ?_⟩
  show ((gform sg p st0).2.fo.set 0 _).length = _
  rw [List.length_set, f.ok.len]
  exact h2
theorem netOf_ok {p : Pat} {sg : Int} (h1 : 1 ≤ sg) (h2 : sg ≤ 400) (hc : cntP p ≤ 300) : NetOf (netOf p sg) (geP p 1) := by
  have f := form_ok sg p st0 st0_ok
  have hI := in_P p 1
  obtain ⟨hb, hbl, hfl⟩ := netOf_by p sg
  have hb1 : st0.by_.length = 1 := rfl
  have hed := f.ed
  rw [hb1] at hed
  have hfo := fun s t => f.fo s t
  have hz : ∀ s t, ¬ FoR st0.fo s t := fun s t => by
    unfold FoR st0
    cases s with
    | zero => simp
    | succ s => simp
  have hl0 : 0 < (gform sg p st0).2.fo.length := by
    have : (netOf p sg).follow.length = (gform sg p st0).2.fo.length := List.length_set ..
    omega
  have f0 : ∀ t : Nat, (t : Int) ∈ (netOf p sg).follow.getD 0 [] ↔ (geP p 1).fst t := fun t => by
    show (t : Int) ∈ ((gform sg p st0).2.fo.set 0 (gform sg p st0).1.fst).getD 0 [] ↔ _
    rw [List.getD_eq_getElem?_getD, List.getElem?_set, if_pos rfl, if_pos hl0, Option.getD_some]
    exact hed.fst t
  have fs : ∀ s t : Nat, 1 ≤ s → ((t : Int) ∈ (netOf p sg).follow.getD s [] ↔ (geP p 1).fol s t) := fun s t hs => by
    show (t : Int) ∈ ((gform sg p st0).2.fo.set 0 (gform sg p st0).1.fst).getD s [] ↔ _
    rw [List.getD_eq_getElem?_getD, List.getElem?_set, if_neg (by omega), ← List.getD_eq_getElem?_getD]
    have := hfo s t
    rw [hb1] at this
    exact this.trans ⟨fun h => h.elim (fun h => (hz s t h).elim) id, .inr⟩
  have hlast : ∀ q : Int, q ∈ (netOf p sg).last ↔ ((geP p 1).nul ∧ q = 0) ∨ q ∈ (gform sg p st0).1.lst := fun q => by
    show q ∈ (if (gform sg p st0).1.nul = true then setF ((gform sg p st0).1.lst ++ [0]) else (gform sg p st0).1.lst) ↔ _
    by_cases hn : (gform sg p st0).1.nul = true
    · rw [if_pos hn, mem_setF, List.mem_append, List.mem_singleton]
      have := hed.nul.mp hn
      exact ⟨fun h => h.elim .inr (fun h => .inl ⟨this, h⟩), fun h => h.elim (fun h => .inr h.2) .inl⟩
    · rw [if_neg hn]
      exact ⟨.inr, fun h => h.elim (fun h => (hn (hed.nul.mpr h.1)).elim) id⟩
  have hlp : ∀ q ∈ (gform sg p st0).1.lst, 1 ≤ q ∧ q < 1 + cntP p := fun q hq => by
    have h0 := hed.ul.2 q hq
    have e : ((q.toNat : Nat) : Int) = q := by omega
    rw [← e] at hq
    have := hI.lst _ ((hed.lst q.toNat).mp hq)
    omega
  refine ⟨⟨h1, h2, by omega, by omega, by omega, by rw [hb]; rfl, ⟨?_, fun q hq => ?_⟩, fun i h => ?_, fun i h => ?_⟩, by rw [hbl]; exact hI, f0, fs, ?_, fun s hs => ?_⟩
  · show (if (gform sg p st0).1.nul = true then setF ((gform sg p st0).1.lst ++ [0]) else (gform sg p st0).1.lst).Pairwise (· < ·)
    split
    · exact setF_pw _
    · exact hed.ul.1
  · rcases (hlast q).mp hq with ⟨_, rfl⟩ | hq
    · omega
    · have := hlp q hq; omega
  · have hm : (netOf p sg).by_[i] ∈ [] :: lvP sg p := by rw [← hb]; exact List.getElem_mem h
    rcases List.mem_cons.mp hm with e | hm
    · rw [e]; exact ⟨by simp, by simp⟩
    · exact lvP_rises sg p _ hm
  · have hrow : (netOf p sg).follow.getD i [] = (netOf p sg).follow[i] := follow_getD h
    have hup : Up (netOf p sg).follow[i] := by
      have hm : (netOf p sg).follow[i] ∈ (gform sg p st0).2.fo.set 0 (gform sg p st0).1.fst := List.getElem_mem h
      rcases List.mem_or_eq_of_mem_set hm with hm | e
      · exact f.ok.up _ hm
      · rw [e]; exact hed.uf
    refine ⟨hup.1, fun x hx => ?_⟩
    have h0 := hup.2 x hx
    have e : ((x.toNat : Nat) : Int) = x := by omega
    rw [← hrow, ← e] at hx
    by_cases hi : i = 0
    · subst hi
      have := hI.fst _ ((f0 x.toNat).mp hx); omega
    · have := hI.fol _ _ ((fs i x.toNat (by omega)).mp hx); omega
  · rw [hlast]
    exact ⟨fun h => h.elim (fun h => h.1) (fun h => by have := hlp 0 h; omega), fun h => .inl ⟨h, rfl⟩⟩
  · rw [hlast]
    rw [← hed.lst s]
    exact ⟨fun h => h.elim (fun h => by omega) id, .inr⟩
/-- A leaf's signs are those that the form names, as far as there are such. -/
def sgS (sg : Int) (l : List Int) (g : List Int) (a b : Int) : Prop := stp l (leafF sg g) a b
mutual
theorem lf_P (sg : Int) (l : List Int) : ∀ (p : Pat) (pre post : List (List Int)), LfP (fun s a e => stp l ((pre ++ lvP sg p ++ post).getD s []) a e) (sgS sg l) p pre.length
  | .mk k _ g ks, pre, post => by
    simp only [LfP]
    refine ⟨fun h2 a e => ?_, fun h1 h2 => ?_⟩
    · subst h2
      have : lvP sg (.mk 2 ‹_› g ks) = [leafF sg g] := by simp [lvP]
      rw [this, List.append_assoc, List.getD_eq_getElem?_getD, List.getElem?_append_right (Nat.le_refl _)]
      simp [sgS]
    · have : lvP sg (.mk k ‹_› g ks) = lvL sg ks := by simp only [lvP]; rw [if_neg h1, if_neg h2]
      rw [this]
      exact lf_L sg l ks pre post
theorem lf_L (sg : Int) (l : List Int) : ∀ (ks : List Pat) (pre post : List (List Int)), LfL (fun s a e => stp l ((pre ++ lvL sg ks ++ post).getD s []) a e) (sgS sg l) ks pre.length
  | [], pre, post => by simp only [LfL]
  | q :: qs, pre, post => by
    simp only [LfL]
    have h1 := lf_P sg l q pre (lvL sg qs ++ post)
    have h2 := lf_L sg l qs (pre ++ lvP sg q) post
    have e1 : pre ++ lvP sg q ++ (lvL sg qs ++ post) = pre ++ lvL sg (q :: qs) ++ post := by simp [lvL]
    have e2 : pre ++ lvP sg q ++ lvL sg qs ++ post = pre ++ lvL sg (q :: qs) ++ post := by simp [lvL]
    have hc : (lvP sg q).length = cntP q := (form_ok sg q st0 st0_ok).len
    rw [e1] at h1
    rw [e2, List.length_append, hc] at h2
    exact ⟨h1, h2⟩
end
mutual
/-- The form without the signs that there aren't. -/
def flP (sg : Int) : Pat → Pat
  | .mk k _ g ks => .mk k [] (leafF sg g) (flL sg ks)
def flL (sg : Int) : List Pat → List Pat
  | [] => []
  | q :: qs => flP sg q :: flL sg qs
end
mutual
theorem mr_fl (sg : Int) (l : List Int) : ∀ (p : Pat) (a b : Int), MR (sgS sg l) p a b ↔ MR (stp l) (flP sg p) a b
  | .mk k r g ks, a, b => by
    simp only [flP, MR]
    by_cases h1 : k = 1
    · rw [if_pos h1, if_pos h1]
    rw [if_neg h1, if_neg h1]
    by_cases h2 : k = 2
    · rw [if_pos h2, if_pos h2]; rfl
    rw [if_neg h2, if_neg h2]
    by_cases h3 : k = 3
    · rw [if_pos h3, if_pos h3]; exact ma_fl sg l ks a b
    rw [if_neg h3, if_neg h3]
    by_cases h4 : k = 4
    · rw [if_pos h4, if_pos h4]; exact mo_fl sg l ks a b
    rw [if_neg h4, if_neg h4]
    by_cases h5 : k = 7 ∨ k = 5 ∨ k = 6
    · rw [if_pos h5, if_pos h5]; exact mg_fl sg l ks k a b
    · rw [if_neg h5, if_neg h5]
theorem ma_fl (sg : Int) (l : List Int) : ∀ (ks : List Pat) (a b : Int), MA (sgS sg l) ks a b ↔ MA (stp l) (flL sg ks) a b
  | [], a, b => by simp only [flL, MA]
  | q :: qs, a, b => by
    simp only [flL, MA]
    exact ⟨fun ⟨m, h1, h2⟩ => ⟨m, (mr_fl sg l q a m).mp h1, (ma_fl sg l qs m b).mp h2⟩, fun ⟨m, h1, h2⟩ => ⟨m, (mr_fl sg l q a m).mpr h1, (ma_fl sg l qs m b).mpr h2⟩⟩
theorem mo_fl (sg : Int) (l : List Int) : ∀ (ks : List Pat) (a b : Int), MO (sgS sg l) ks a b ↔ MO (stp l) (flL sg ks) a b
  | [], a, b => by simp only [flL, MO]
  | q :: qs, a, b => by
    simp only [flL, MO]
    rw [mr_fl sg l q a b, mo_fl sg l qs a b]
theorem mg_fl (sg : Int) (l : List Int) : ∀ (ks : List Pat) (k a b : Int), MG (sgS sg l) ks k a b ↔ MG (stp l) (flL sg ks) k a b
  | [], k, a, b => by simp only [flL, MG]
  | [q], k, a, b => by
    simp only [flL, MG]
    rw [mr_fl sg l q a b, clo_congr (mr_fl sg l q)]
  | _ :: _ :: _, k, a, b => by simp only [flL, MG]
end
/-- What a form's net accepts. -/
theorem net_acc {p : Pat} {sg : Int} (h1 : 1 ≤ sg) (h2 : sg ≤ 400) (hc : cntP p ≤ 300) (l : List Int) : accN (netOf p sg) l = matP (flP sg p) l 0 l.length := by
  have hL := lf_P sg l p [[]] []
  rw [List.append_nil] at hL
  have hb := (netOf_by p sg).1
  have hL' : LfP (sgT (netOf p sg) l) (sgS sg l) p 1 := by
    have : sgT (netOf p sg) l = fun s a e => stp l (([[]] ++ lvP sg p).getD s []) a e := by
      funext s a e
      unfold sgT
      rw [hb]; rfl
    rw [this]; exact hL
  have h3 := (acc_net (netOf_ok h1 h2 hc) l).trans ((acc_P p 1 hL' 0 l.length).trans (mr_fl sg l p 0 l.length))
  have h4 : matP (flP sg p) l 0 l.length = true ↔ MR (stp l) (flP sg p) 0 l.length := matP_MR.trans ⟨fun h => h.2.2, fun h => ⟨by omega, by omega, h⟩⟩
  cases hA : accN (netOf p sg) l <;> cases hB : matP (flP sg p) l 0 l.length <;> simp_all
end Go.Rf


/- Own work: the lists of a net that is being laid are short (plain law). -/
set_option linter.unusedVariables false
set_option linter.unusedSimpArgs false
namespace Go.Rf
open Go.RowKit
def UpN (N : Nat) (l : List Int) : Prop := Up l ∧ ∀ x ∈ l, x < (N : Int)
theorem UpN.len {N : Nat} {l : List Int} (h : UpN N l) : l.length ≤ N :=
  nodup_len N (h.1.1.imp fun h => by omega) fun x hx => ⟨h.1.2 x hx, h.2 x hx⟩
theorem UpN.mono {N M : Nat} {l : List Int} (h : UpN N l) (hm : N ≤ M) : UpN M l := ⟨h.1, fun x hx => by have := h.2 x hx; omega⟩
theorem UpN.nil {N : Nat} : UpN N [] := ⟨up_nil, by simp⟩
theorem UpN.one {N k : Nat} (h : k < N) : UpN N [(k : Int)] := ⟨up_one k, fun x hx => by simp at hx; omega⟩
theorem UpN.app {N : Nat} {a b : List Int} (ha : UpN N a) (hb : UpN N b) : UpN N (setF (a ++ b)) :=
  ⟨up_set ha.1.2 hb.1.2, fun x hx => (List.mem_append.mp (mem_setF.mp hx)).elim (ha.2 x) (hb.2 x)⟩
structure StN (st : Gs) : Prop where
  len : st.fo.length = st.by_.length
  rows : ∀ r ∈ st.fo, UpN st.by_.length r
structure EdN (N : Nat) (e : Ed) : Prop where
  f : UpN N e.fst
  l : UpN N e.lst
theorem EdN.mono {N M : Nat} {e : Ed} (h : EdN N e) (hm : N ≤ M) : EdN M e := ⟨h.f.mono hm, h.l.mono hm⟩
theorem getD_UpN {N : Nat} {fo : List (List Int)} (h : ∀ r ∈ fo, UpN N r) (i : Nat) : UpN N (fo.getD i []) := by
  rw [List.getD_eq_getElem?_getD]
  cases e : fo[i]? with
  | none => exact UpN.nil
  | some r => exact h r (List.mem_of_getElem? e)
theorem folF_N {N : Nat} : ∀ (ss : List Int) (fo : List (List Int)) (be : List Int), (∀ r ∈ fo, UpN N r) → UpN N be → ∀ r ∈ folF fo ss be, UpN N r
  | [], fo, be, h, _ => h
  | x :: ss, fo, be, h, hb => by
    refine folF_N ss _ be (fun r hr => ?_) hb
    rcases List.mem_or_eq_of_mem_set hr with hr | rfl
    · exact h r hr
    · exact (getD_UpN h _).app hb
theorem folF_snoc : ∀ (ss : List Int) (fo : List (List Int)) (s : Int) (be : List Int), folF fo (ss ++ [s]) be = (folF fo ss be).set s.toNat (setF ((folF fo ss be).getD s.toNat [] ++ be))
  | [], fo, s, be => rfl
  | x :: ss, fo, s, be => by rw [List.cons_append, folF, folF_snoc ss]; rfl
theorem StN.fol {st : Gs} (h : StN st) {a b : List Int} (hb : UpN st.by_.length b) : StN ⟨st.by_, folF st.fo a b⟩ := ⟨(folF_len _ _ _).trans h.len, folF_N _ _ _ h.rows hb⟩
theorem gjoin_N : ∀ (es : List Ed) (all : Ed) (st : Gs), StN st → EdN st.by_.length all → (∀ e ∈ es, EdN st.by_.length e) → StN (gjoin es all st).2 ∧ EdN st.by_.length (gjoin es all st).1
  | [], all, st, h, ha, _ => ⟨h, ha⟩
  | e :: es, all, st, h, ha, he => by
    have h1 := he e (by simp)
    rw [gjoin]
    refine gjoin_N es _ ⟨st.by_, folF st.fo all.lst e.fst⟩ (h.fol h1.f) ⟨?_, ?_⟩ (fun e' h' => he e' (by simp [h']))
    · simp only
      split
      · exact ha.f.app h1.f
      · exact ha.f
    · simp only
      split
      · exact ha.l.app h1.l
      · exact UpN.nil.app h1.l
theorem geither_N {N : Nat} : ∀ (es : List Ed) (all : Ed), EdN N all → (∀ e ∈ es, EdN N e) → EdN N (geither es all)
  | [], all, ha, _ => ha
  | e :: es, all, ha, he => by
    have h1 := he e (by simp)
    rw [geither]
    exact geither_N es _ ⟨ha.f.app h1.f, ha.l.app h1.l⟩ (fun e' h' => he e' (by simp [h']))
theorem gone_N (es : List Ed) (k : Int) (st : Gs) (h : StN st) (he : ∀ e ∈ es, EdN st.by_.length e) : StN (gone es k st).2 ∧ (gone es k st).2.by_ = st.by_ ∧ EdN st.by_.length (gone es k st).1 := by
  have no : EdN st.by_.length ⟨false, [], []⟩ := ⟨UpN.nil, UpN.nil⟩
  match es, he with
  | [], _ => exact ⟨h, rfl, no⟩
  | [e], he =>
    have h1 := he e (by simp)
    simp only [gone]
    split
    · refine ⟨?_, ?_, ⟨h1.f, h1.l⟩⟩
      · split
        · exact h
        · exact h.fol h1.f
      · split <;> rfl
    · exact ⟨h, rfl, no⟩
  | _ :: _ :: _, _ => exact ⟨h, rfl, no⟩
mutual
theorem gform_N (sg : Int) : ∀ (p : Pat) (st : Gs), StN st → StN (gform sg p st).2 ∧ EdN (gform sg p st).2.by_.length (gform sg p st).1 ∧ (gform sg p st).2.by_.length = st.by_.length + cntP p
  | .mk k s g ks, st, h => by
    simp only [gform, cntP]
    split
    · exact ⟨h, ⟨UpN.nil, UpN.nil⟩, rfl⟩
    · split
      · refine ⟨⟨by simp [h.len], fun r hr => ?_⟩, ⟨UpN.one (by simp), UpN.one (by simp)⟩, by simp⟩
        simp only at hr ⊢
        rcases List.mem_append.mp hr with hr | hr
        · exact (h.rows r hr).mono (by simp)
        · rw [List.mem_singleton] at hr; subst hr; exact UpN.nil
      · obtain ⟨i1, i2, i3⟩ := geach_N sg ks st h
        split
        · obtain ⟨j1, j2⟩ := gjoin_N (geach sg ks st).1 ⟨true, [], []⟩ (geach sg ks st).2 i1 ⟨UpN.nil, UpN.nil⟩ i2
          have hb := (gjoin_by (geach sg ks st).1 ⟨true, [], []⟩ (geach sg ks st).2).1
          exact ⟨j1, by rw [hb]; exact j2, by rw [hb]; exact i3⟩
        · split
          · exact ⟨i1, geither_N _ _ ⟨UpN.nil, UpN.nil⟩ i2, i3⟩
          · obtain ⟨j1, j2, j3⟩ := gone_N (geach sg ks st).1 k (geach sg ks st).2 i1 i2
            exact ⟨j1, by rw [j2]; exact j3, by rw [j2]; exact i3⟩
theorem geach_N (sg : Int) : ∀ (ks : List Pat) (st : Gs), StN st → StN (geach sg ks st).2 ∧ (∀ e ∈ (geach sg ks st).1, EdN (geach sg ks st).2.by_.length e) ∧ (geach sg ks st).2.by_.length = st.by_.length + cntL ks
  | [], st, h => by simp only [geach, cntL]; exact ⟨h, by simp, rfl⟩
  | q :: qs, st, h => by
    obtain ⟨i1, i2, i3⟩ := gform_N sg q st h
    obtain ⟨j1, j2, j3⟩ := geach_N sg qs (gform sg q st).2 i1
    simp only [geach, cntL]
    refine ⟨j1, fun e he => ?_, by omega⟩
    rcases List.mem_cons.mp he with rfl | he
    · exact i2.mono (by omega)
    · exact j2 e he
end
theorem geach_snoc (sg : Int) : ∀ (ks : List Pat) (q : Pat) (st : Gs), geach sg (ks ++ [q]) st = ((geach sg ks st).1 ++ [(gform sg q (geach sg ks st).2).1], (gform sg q (geach sg ks st).2).2)
  | [], q, st => by simp only [List.nil_append, geach]
  | k :: ks, q, st => by simp only [List.cons_append, geach]; rw [geach_snoc sg ks]
theorem gjoin_snoc : ∀ (es : List Ed) (e : Ed) (all : Ed) (st : Gs), gjoin (es ++ [e]) all st =
    (⟨(gjoin es all st).1.nul && e.nul, if (gjoin es all st).1.nul = true then setF ((gjoin es all st).1.fst ++ e.fst) else (gjoin es all st).1.fst, setF ((if e.nul = true then (gjoin es all st).1.lst else []) ++ e.lst)⟩, ⟨(gjoin es all st).2.by_, folF (gjoin es all st).2.fo (gjoin es all st).1.lst e.fst⟩)
  | [], e, all, st => rfl
  | k :: es, e, all, st => by simp only [List.cons_append, gjoin]; rw [gjoin_snoc es]; rfl
theorem geither_snoc : ∀ (es : List Ed) (e : Ed) (all : Ed), geither (es ++ [e]) all = ⟨(geither es all).nul || e.nul, setF ((geither es all).fst ++ e.fst), setF ((geither es all).lst ++ e.lst)⟩
  | [], e, all => rfl
  | k :: es, e, all => by simp only [List.cons_append, geither]; rw [geither_snoc es]
theorem cntL_append : ∀ (a b : List Pat), cntL (a ++ b) = cntL a + cntL b
  | [], b => by simp [cntL]
  | p :: a, b => by simp only [List.cons_append, cntL]; rw [cntL_append a b]; omega
end Go.Rf


/- Own work: functions that work on a net that is being laid (its cell, and two lists of its own), wherever it lies. -/
set_option linter.unusedVariables false
set_option linter.unusedSimpArgs false
namespace Go.Rf
open Go.RowKit
def mCell (sg : Int) (v w : AV) : AV := .agg [encI sg, v, w, .sl true []]
def mG (sg : Int) (o : Bool) (st : Gs) (a b c : Nat) : List (Nat × Option Blk) :=
  [(a, some (.arr 4 [mCell sg (vV o b (st.by_.map encIs)) (vV o c (st.fo.map encIs))])), (b, vB o 1 (st.by_.map encIs)), (c, vB o 1 (st.fo.map encIs))]
/-- How it lies at the end. -/
def MOut (sg : Int) (st : Gs) (S : St) : Prop := S.n = 10 ∧ S.g 0 = some (.arr 4 [mCell sg (.own 3 0 st.by_.length) (.own 4 0 st.fo.length)]) ∧ S.g 3 = some (.arr 1 (st.by_.map encIs)) ∧ S.g 4 = some (.arr 1 (st.fo.map encIs))
theorem MOut.of {sg : Int} {st : Gs} {G : List (Nat × Option Blk)} : MOut sg st ⟨10, gOf (mG sg true st 0 3 4 ++ G)⟩ := ⟨rfl, by simp [mG, gOf, vV_t], by simp [mG, gOf, vB_t], by simp [mG, gOf, vB_t]⟩
def CallM (P : Program) (f : FuncId) (args : List AV) (sg : Int) (o : Bool) (st st' : Gs) (r : AV) : Prop :=
  CallR P f (.ptr 0 0 0 :: args) ⟨3, gOf (mG sg o st 0 1 2)⟩ fun r' S' => r' = r ∧ MOut sg st' S'
def mOut (sg : Int) (st : Gs) (id b c : Nat) (S : St) : St :=
  ((((((St.mk (S.n + 7) S.g).set id (some (.arr 4 [mCell sg (.own S.n 0 st.by_.length) (.own (S.n + 1) 0 st.fo.length)]))).set b none).set c none).set S.n (some (.arr 1 (st.by_.map encIs)))).set (S.n + 1) (some (.arr 1 (st.fo.map encIs))))
theorem CallM.use {P : Program} {f : FuncId} {args args0 : List AV} {sg : Int} {o : Bool} {st st' : Gs} {r : AV} (h : CallM P f args sg o st st' r) (ha : ∀ R, RenL noG R args0 args) (hr : Closed r) {S : St} {K : AV → St → Prop} {id b c : Nat}
    (h1 : S.g id = some (.arr 4 [mCell sg (vV o b (st.by_.map encIs)) (vV o c (st.fo.map encIs))])) (h2 : S.g b = vB o 1 (st.by_.map encIs)) (h3 : S.g c = vB o 1 (st.fo.map encIs))
    (hd : id ≠ b ∧ id ≠ c ∧ b ≠ c) (hl : id < S.n ∧ b < S.n ∧ c < S.n) (hk : K r (mOut sg st' id b c S)) : CallR P f (.ptr id 0 0 :: args0) S K := by
  refine CallR.frame 3 [(0, id), (1, b), (2, c)] (mG sg o st 0 1 2) (.ptr 0 0 0 :: args) _ (by simp; omega) (by simp; omega) ?_ ?_ h ?_
  · intro p hp
    simp only [mG, List.mem_cons, List.not_mem_nil, or_false] at hp
    rcases hp with rfl | rfl | rfl
    · refine .inr ⟨id, by simp, ?_⟩
      rw [h1, Z1r]
      refine ⟨rfl, ?_⟩
      simp only [mCell, Z1p, Z1q, and_true, Z1t]
      exact ⟨.cl (Z2r _), Z52 (by simp) (Z1a _), Z52 (by simp) (Z1a _), .cl (Z2w _)⟩
    · exact .inr ⟨b, by simp, by rw [h2]; exact Z4v (Z1a _)⟩
    · exact .inr ⟨c, by simp, by rw [h3]; exact Z4v (Z1a _)⟩
  · exact .cons (.ptr _ _ _ _ (by simp)) (ha _)
  · rintro r1 S1 hn ⟨rfl, q1, q2, q3, q4⟩
    refine ⟨r1, _, hk, .cl hr, by simp [mOut, Z4f, q1], fun i k hi => ?_⟩
    simp only [mOut, Z4e] at hi
    by_cases e5 : i = S.n + 1
    · rw [if_pos e5] at hi
      refine .inr ⟨4, .inr ⟨by omega, by omega⟩, ?_⟩
      rw [← hi, q4, Z1r]; exact ⟨rfl, .cl (Z1a _)⟩
    rw [if_neg e5] at hi
    by_cases e4 : i = S.n
    · rw [if_pos e4] at hi
      refine .inr ⟨3, .inr ⟨by omega, by omega⟩, ?_⟩
      rw [← hi, q3, Z1r]; exact ⟨rfl, .cl (Z1a _)⟩
    rw [if_neg e4] at hi
    by_cases ec : i = c
    · rw [if_pos ec] at hi; cases hi
    rw [if_neg ec] at hi
    by_cases eb : i = b
    · rw [if_pos eb] at hi; cases hi
    rw [if_neg eb] at hi
    by_cases ea : i = id
    · rw [if_pos ea] at hi
      refine .inr ⟨0, .inl ⟨by omega, by simp [ea]⟩, ?_⟩
      rw [← hi, q2, Z1r]
      refine ⟨rfl, ?_⟩
      simp only [mCell, Z1p, Z1q, and_true, Z1t, Z1v]
      exact ⟨.cl (Z2r _), (.inr ⟨by omega, by omega⟩), (.inr ⟨by omega, by omega⟩), .cl (Z2w _)⟩
    · rw [if_neg ea] at hi
      refine .inl ⟨?_, hi⟩
      simp; omega
end Go.Rf

