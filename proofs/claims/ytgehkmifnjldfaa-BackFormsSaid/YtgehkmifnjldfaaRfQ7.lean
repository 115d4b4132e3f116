import Derived.Test.YtgehkmifnjldfaaRfR12
/- Own work: what a form matches, as a relation of places; no program in sight. -/
set_option linter.unusedVariables false
set_option linter.unusedSimpArgs false
namespace Go.Rf
open Go.RowKit

inductive Clo (r : Int → Int → Prop) : Int → Int → Prop
  | one {a b : Int} (h : r a b) : Clo r a b
  | more {a b c : Int} (h : Clo r a b) (k : r b c) : Clo r a c
theorem Clo.trans {r : Int → Int → Prop} {a b c : Int} (h : Clo r a b) (k : Clo r b c) : Clo r a c := by
  induction k with
  | one k => exact .more h k
  | more _ k ih => exact .more ih k
theorem Clo.head {r : Int → Int → Prop} {a c : Int} (h : Clo r a c) : ∃ b, r a b ∧ (b = c ∨ Clo r b c) := by
  induction h with
  | one h => exact ⟨_, h, .inl rfl⟩
  | more h k ih =>
    obtain ⟨b, h1, h2⟩ := ih
    refine ⟨b, h1, .inr ?_⟩
    rcases h2 with rfl | h2
    · exact .one k
    · exact .more h2 k
mutual
def MR (S : List Int → Int → Int → Prop) : Pat → Int → Int → Prop
  | .mk k _ g ks, a, b => if k = 1 then a = b else if k = 2 then S g a b else if k = 3 then MA S ks a b else if k = 4 then MO S ks a b else if k = 7 ∨ k = 5 ∨ k = 6 then MG S ks k a b else False
def MA (S : List Int → Int → Int → Prop) : List Pat → Int → Int → Prop
  | [], a, b => a = b
  | q :: qs, a, b => ∃ m, MR S q a m ∧ MA S qs m b
def MO (S : List Int → Int → Int → Prop) : List Pat → Int → Int → Prop
  | [], _, _ => False
  | q :: qs, a, b => MR S q a b ∨ MO S qs a b
def MG (S : List Int → Int → Int → Prop) : List Pat → Int → Int → Int → Prop
  | [q], k, a, b => (k ≠ 6 ∧ a = b) ∨ (if k = 7 then MR S q a b else Clo (MR S q) a b)
  | _, _, _, _ => False
end
/-- One sign of a list. -/
def stp (l : List Int) (g : List Int) (a b : Int) : Prop := b = a + 1 ∧ 0 ≤ a ∧ a < l.length ∧ l.getD a.toNat 0 ∈ g
/-! ### the closure, as it is come to -/
theorem addA_pre2 (xs : List Int) : ∀ (acc : List Int), ∃ t, addA acc xs = acc ++ t := by
  induction xs with
  | nil => intro acc; exact ⟨[], by simp [addA]⟩
  | cons x xs ih =>
    intro acc
    simp only [addA]
    obtain ⟨t, ht⟩ := ih (if acc.contains x = true then acc else acc ++ [x])
    split at ht
    · exact ⟨t, by rw [if_pos (by assumption)]; exact ht⟩
    · rw [if_neg (by assumption)]
      exact ⟨[x] ++ t, by rw [ht]; simp⟩
theorem cloL_mem {v : Int → List Int} {n : Nat} {at_ : Int} (hv : ∀ x : Int, 0 ≤ x → x ≤ n → ∀ y ∈ v x, 0 ≤ y ∧ y ≤ (n : Int)) (h0 : 0 ≤ at_ ∧ at_ ≤ n) :
    ∀ (f : Nat) (met : List Int) (i : Nat), met.Nodup → (∀ x ∈ met, 0 ≤ x ∧ x ≤ (n : Int)) → i ≤ met.length → n + 2 ≤ f + i → (∀ y ∈ v at_, y ∈ met) → (∀ x ∈ met, Clo (fun a b => b ∈ v a) at_ x) →
      (∀ j (h : j < met.length), j < i → ∀ y ∈ v met[j], y ∈ met) → ∀ y, y ∈ cloL v f met i ↔ Clo (fun a b => b ∈ v a) at_ y := by
  have done : ∀ (met : List Int), (∀ y ∈ v at_, y ∈ met) → (∀ x ∈ met, ∀ y ∈ v x, y ∈ met) → ∀ y, Clo (fun a b => b ∈ v a) at_ y → y ∈ met := by
    intro met h1 h2 y hy
    induction hy with
    | one h => exact h1 _ h
    | more h k ih => exact h2 _ ih _ k
  intro f
  induction f with
  | zero =>
    intro met i hnd hb hi hf h1 h2 h3 y
    have := nodup_len (n + 1) hnd (fun x hx => by have := hb x hx; omega)
    omega
  | succ f ih =>
    intro met i hnd hb hi hf h1 h2 h3 y
    simp only [cloL]
    split
    · rename_i hlt
      have hbi := hb _ (List.getElem_mem hlt)
      obtain ⟨t, ht⟩ := addA_pre2 (v met[i]) met
      have hlen : met.length ≤ (addA met (v met[i])).length := by rw [ht]; simp
      refine ih _ _ (addA_nodup hnd) (fun x hx => ?_) (by omega) (by omega) (fun y hy => mem_addA.mpr (.inl (h1 y hy))) (fun x hx => ?_) (fun j hj hji y hy => ?_) y
      · rcases mem_addA.mp hx with hx | hx
        · exact hb x hx
        · exact hv _ hbi.1 hbi.2 x hx
      · rcases mem_addA.mp hx with hx | hx
        · exact h2 x hx
        · exact .more (h2 _ (List.getElem_mem hlt)) hx
      · have hjm : j < met.length := by omega
        have e : (addA met (v met[i]))[j] = met[j] := by simp only [ht]; exact List.getElem_append_left hjm
        rw [e] at hy
        by_cases hji2 : j = i
        · subst hji2; exact mem_addA.mpr (.inr hy)
        · exact mem_addA.mpr (.inl (h3 j hjm (by omega) y hy))
    · rename_i hlt
      have hie : i = met.length := by omega
      refine ⟨fun h => h2 y h, fun h => done met h1 (fun x hx y hy => ?_) y h⟩
      obtain ⟨j, hj, rfl⟩ := List.mem_iff_getElem.mp hx
      exact h3 j hj (by omega) y hy
theorem agn_mem {v : Int → List Int} {n : Nat} {k at_ : Int} (hv : ∀ x : Int, 0 ≤ x → x ≤ n → ∀ y ∈ v x, 0 ≤ y ∧ y ≤ (n : Int)) (h0 : 0 ≤ at_ ∧ at_ ≤ n) (y : Int) :
    y ∈ agn v k n at_ ↔ (k ≠ 6 ∧ at_ = y) ∨ (if k = 7 then y ∈ v at_ else Clo (fun a b => b ∈ v a) at_ y) := by
  unfold agn
  rw [List.mem_append]
  have h1 : y ∈ (if k = 6 then ([] : List Int) else [at_]) ↔ k ≠ 6 ∧ at_ = y := by
    by_cases h : k = 6
    · simp [h]
    · simp [h]; exact ⟨fun e => e.symm, fun e => e.symm⟩
  rw [h1]
  by_cases h7 : k = 7
  · rw [if_pos h7, if_pos h7, mem_ddp]
  · rw [if_neg h7, if_neg h7]
    have := cloL_mem hv h0 (n + 2) (ddp (v at_)) 0 (ddp_nodup _) (fun x hx => hv _ h0.1 h0.2 x (mem_ddp.mp hx)) (Nat.zero_le _) (by omega) (fun y hy => mem_ddp.mpr hy) (fun x hx => .one (mem_ddp.mp hx)) (fun j hj h => by omega) y
    rw [this]
theorem Clo.congr {r s : Int → Int → Prop} {lo hi : Int} (hrs : ∀ a b, lo ≤ a → a ≤ hi → (r a b ↔ s a b)) (hb : ∀ a b, lo ≤ a → a ≤ hi → r a b → lo ≤ b ∧ b ≤ hi) {a b : Int} (ha : lo ≤ a ∧ a ≤ hi) : Clo r a b ↔ Clo s a b := by
  constructor
  · intro h
    have key : ∀ {b}, Clo r a b → (lo ≤ b ∧ b ≤ hi) ∧ Clo s a b := by
      intro b h
      induction h with
      | one h => exact ⟨hb _ _ ha.1 ha.2 h, .one ((hrs _ _ ha.1 ha.2).mp h)⟩
      | more _ k ih =>
        obtain ⟨h1, h2⟩ := ih
        exact ⟨hb _ _ h1.1 h1.2 k, .more h2 ((hrs _ _ h1.1 h1.2).mp k)⟩
    exact (key h).2
  · intro h
    have key : ∀ {b}, Clo s a b → (lo ≤ b ∧ b ≤ hi) ∧ Clo r a b := by
      intro b h
      induction h with
      | one h => have h' := (hrs _ _ ha.1 ha.2).mpr h; exact ⟨hb _ _ ha.1 ha.2 h', .one h'⟩
      | more _ k ih =>
        obtain ⟨h1, h2⟩ := ih
        have h' := (hrs _ _ h1.1 h1.2).mpr k
        exact ⟨hb _ _ h1.1 h1.2 h', .more h2 h'⟩
    exact (key h).2
/-! ### what is told is the relation -/
mutual
theorem visits_MR (l : List Int) : ∀ (p : Pat) (a b : Int), 0 ≤ a → a ≤ l.length → (b ∈ visits l p a ↔ MR (stp l) p a b)
  | .mk k s g ks, a, b, h0, hn => by
    rw [visits, MR]
    by_cases h1 : k = 1
    · rw [if_pos h1, if_pos h1]; simp; exact ⟨fun e => e.symm, fun e => e.symm⟩
    · rw [if_neg h1, if_neg h1]
      by_cases h2 : k = 2
      · rw [if_pos h2, if_pos h2]
        unfold stp
        by_cases hc : a < l.length ∧ g.contains (l.getD a.toNat 0) = true
        · rw [if_pos hc]
          have hm : l.getD a.toNat 0 ∈ g := by simpa using hc.2
          simp only [List.mem_cons, List.not_mem_nil, or_false]
          exact ⟨fun e => ⟨e, h0, hc.1, hm⟩, fun e => e.1⟩
        · rw [if_neg hc]
          simp only [List.not_mem_nil, false_iff]
          rintro ⟨_, _, h3, h4⟩
          exact hc ⟨h3, by simpa using h4⟩
      · rw [if_neg h2, if_neg h2]
        by_cases h3 : k = 3
        · rw [if_pos h3, if_pos h3, visAll_MA l ks [a] b (by simp; exact ⟨h0, hn⟩)]; simp
        · rw [if_neg h3, if_neg h3]
          by_cases h4 : k = 4
          · rw [if_pos h4, if_pos h4, visOr_MO l ks a b h0 hn]
          · rw [if_neg h4, if_neg h4]
            by_cases h5 : k = 7 ∨ k = 5 ∨ k = 6
            · rw [if_pos h5, if_pos h5]; exact visAg_MG l ks k a b h0 hn
            · rw [if_neg h5, if_neg h5]; simp
theorem visAll_MA (l : List Int) : ∀ (ks : List Pat) (cur : List Int) (b : Int), (∀ x ∈ cur, 0 ≤ x ∧ x ≤ l.length) → (b ∈ visAll l ks cur ↔ ∃ a ∈ cur, MA (stp l) ks a b)
  | [], cur, b, h => by rw [visAll]; simp [MA]
  | q :: qs, cur, b, h => by
    rw [visAll, visAll_MA l qs _ b (fun x hx => by
      obtain ⟨a, ha, hx2⟩ := List.mem_flatMap.mp (mem_ddp.mp hx)
      have h1 := h a ha
      have := visits_bd l q a h1.1 h1.2 x hx2
      omega)]
    constructor
    · rintro ⟨m, hm, hr⟩
      obtain ⟨a, ha, hx2⟩ := List.mem_flatMap.mp (mem_ddp.mp hm)
      have h1 := h a ha
      exact ⟨a, ha, by rw [MA]; exact ⟨m, (visits_MR l q a m h1.1 h1.2).mp hx2, hr⟩⟩
    · rintro ⟨a, ha, hr⟩
      rw [MA] at hr
      obtain ⟨m, h2, h3⟩ := hr
      have h1 := h a ha
      exact ⟨m, mem_ddp.mpr (List.mem_flatMap.mpr ⟨a, ha, (visits_MR l q a m h1.1 h1.2).mpr h2⟩), h3⟩
theorem visOr_MO (l : List Int) : ∀ (ks : List Pat) (a b : Int), 0 ≤ a → a ≤ l.length → (b ∈ visOr l ks a ↔ MO (stp l) ks a b)
  | [], a, b, _, _ => by rw [visOr, MO]; simp
  | q :: qs, a, b, h0, hn => by rw [visOr, MO, List.mem_append, visits_MR l q a b h0 hn, visOr_MO l qs a b h0 hn]
theorem visAg_MG (l : List Int) : ∀ (ks : List Pat) (k a b : Int), 0 ≤ a → a ≤ l.length → (b ∈ visAg l ks k a ↔ MG (stp l) ks k a b)
  | [q], k, a, b, h0, hn => by
    rw [visAg, MG, agn_mem (fun x hx hy y hm => by have := visits_bd l q x hx hy y hm; omega) ⟨h0, hn⟩]
    have e1 : (if k = 7 then b ∈ visits l q a else Clo (fun a b => b ∈ visits l q a) a b) ↔ (if k = 7 then MR (stp l) q a b else Clo (MR (stp l) q) a b) := by
      by_cases h7 : k = 7
      · rw [if_pos h7, if_pos h7]; exact visits_MR l q a b h0 hn
      · rw [if_neg h7, if_neg h7]
        exact Clo.congr (lo := 0) (hi := l.length) (fun x y hx hy => visits_MR l q x y hx hy) (fun x y hx hy hm => by have := visits_bd l q x hx hy y hm; omega) ⟨h0, hn⟩
    rw [e1]
  | [], k, a, b, _, _ => by rw [visAg, MG] <;> simp
  | q :: r :: qs, k, a, b, _, _ => by rw [visAg, MG] <;> simp
end
theorem endsP_MR {p : Pat} {l : List Int} {a b : Int} : b ∈ endsP p l a ↔ 0 ≤ a ∧ a ≤ l.length ∧ MR (stp l) p a b := by
  unfold endsP
  by_cases h : a < 0 ∨ (l.length : Int) < a
  · rw [if_pos h]; simp; intro h1 h2; omega
  · rw [if_neg h, (List.mergeSort_perm _ _).mem_iff, mem_ddp, visits_MR l p a b (by omega) (by omega)]
    constructor
    · intro hm; exact ⟨by omega, by omega, hm⟩
    · exact fun hm => hm.2.2
theorem matP_MR {p : Pat} {l : List Int} {a b : Int} : matP p l a b = true ↔ 0 ≤ a ∧ a ≤ l.length ∧ MR (stp l) p a b := by
  unfold matP; rw [List.contains_iff_mem, endsP_MR]
end Go.Rf


/- Own work: what stands first, last and behind in a form (plain law): a form's paths through its places match what the form matches. -/
set_option linter.unusedVariables false
namespace Go.Rf
open Go.RowKit
/-- What stands at the ends of a form, and whether it may be nothing. -/
structure GE where
  nul : Prop
  fst : Nat → Prop
  lst : Nat → Prop
  fol : Nat → Nat → Prop
section
variable (T : Nat → Int → Int → Prop)
/-- From one state on to another one, by signs. -/
inductive Rn (F : Nat → Nat → Prop) : Nat → Int → Nat → Int → Prop where
  | refl (s : Nat) (a : Int) : Rn F s a s a
  | step (s t u : Nat) (a m b : Int) (h : F s t) (k : T t a m) (r : Rn F t m u b) : Rn F s a u b
def Acc (E : GE) (a b : Int) : Prop := (E.nul ∧ a = b) ∨ ∃ s m t, E.fst s ∧ T s a m ∧ Rn T E.fol s m t b ∧ E.lst t
end
section
variable {T : Nat → Int → Int → Prop}
theorem Rn.mono {F G : Nat → Nat → Prop} (h : ∀ s t, F s t → G s t) {s t : Nat} {a b : Int} (r : Rn T F s a t b) : Rn T G s a t b := by
  induction r with
  | refl s a => exact .refl s a
  | step s t u a m b hf k r ih => exact .step s t u a m b (h _ _ hf) k ih
theorem Rn.trans {F : Nat → Nat → Prop} {s t u : Nat} {a m b : Int} (r : Rn T F s a t m) (r2 : Rn T F t m u b) : Rn T F s a u b := by
  induction r with
  | refl s a => exact r2
  | step s t u a m b hf k r ih => exact .step _ _ _ _ _ _ hf k (ih r2)
/-- Places lie from one to below another one. -/
structure In (E : GE) (b c : Nat) : Prop where
  fst : ∀ s, E.fst s → b ≤ s ∧ s < c
  lst : ∀ s, E.lst s → b ≤ s ∧ s < c
  fol : ∀ s t, E.fol s t → (b ≤ s ∧ s < c) ∧ b ≤ t ∧ t < c
def catE (E G : GE) : GE := ⟨E.nul ∧ G.nul, fun s => E.fst s ∨ (E.nul ∧ G.fst s), fun s => (E.lst s ∧ G.nul) ∨ G.lst s, fun s t => E.fol s t ∨ G.fol s t ∨ (E.lst s ∧ G.fst t)⟩
def altE (E G : GE) : GE := ⟨E.nul ∨ G.nul, fun s => E.fst s ∨ G.fst s, fun s => E.lst s ∨ G.lst s, fun s t => E.fol s t ∨ G.fol s t⟩
def plusE (E : GE) (n : Prop) : GE := ⟨E.nul ∨ n, E.fst, E.lst, fun s t => E.fol s t ∨ (E.lst s ∧ E.fst t)⟩
def maybeE (E : GE) : GE := ⟨True, E.fst, E.lst, E.fol⟩
theorem In.cat {E G : GE} {b c d : Nat} (h : In E b c) (k : In G c d) (hbc : b ≤ c) (hcd : c ≤ d) : In (catE E G) b d := by
  refine ⟨fun s hs => ?_, fun s hs => ?_, fun s t hs => ?_⟩
  · rcases hs with hs | ⟨_, hs⟩
    · have := h.fst s hs; omega
    · have := k.fst s hs; omega
  · rcases hs with ⟨hs, _⟩ | hs
    · have := h.lst s hs; omega
    · have := k.lst s hs; omega
  · rcases hs with hs | hs | ⟨h1, h2⟩
    · have := h.fol s t hs; omega
    · have := k.fol s t hs; omega
    · have := h.lst s h1; have := k.fst t h2; omega
theorem In.alt {E G : GE} {b c d : Nat} (h : In E b c) (k : In G c d) (hbc : b ≤ c) (hcd : c ≤ d) : In (altE E G) b d := by
  refine ⟨fun s hs => ?_, fun s hs => ?_, fun s t hs => ?_⟩
  · rcases hs with hs | hs
    · have := h.fst s hs; omega
    · have := k.fst s hs; omega
  · rcases hs with hs | hs
    · have := h.lst s hs; omega
    · have := k.lst s hs; omega
  · rcases hs with hs | hs
    · have := h.fol s t hs; omega
    · have := k.fol s t hs; omega
theorem In.plus {E : GE} {b c : Nat} (h : In E b c) (n : Prop) : In (plusE E n) b c := by
  refine ⟨h.fst, h.lst, fun s t hs => ?_⟩
  rcases hs with hs | ⟨h1, h2⟩
  · exact h.fol s t hs
  · exact ⟨h.lst s h1, h.fst t h2⟩
/-- Where a run stays on one side. -/
theorem Rn.right {E G : GE} {b c d : Nat} (h : In E b c) (k : In G c d) {F : Nat → Nat → Prop} (hF : ∀ s t, F s t → E.fol s t ∨ G.fol s t ∨ (E.lst s ∧ G.fst t)) {s t : Nat} {a e : Int} (r : Rn T F s a t e) (hs : c ≤ s) : Rn T G.fol s a t e ∧ c ≤ t := by
  induction r with
  | refl s a => exact ⟨.refl s a, hs⟩
  | step s t u a m e hf kk r ih =>
    rcases hF s t hf with hf | hf | ⟨h1, _⟩
    · have := h.fol s t hf; omega
    · have := k.fol s t hf
      obtain ⟨i1, i2⟩ := ih (by omega)
      exact ⟨.step _ _ _ _ _ _ hf kk i1, i2⟩
    · have := h.lst s h1; omega
theorem Rn.left {E G : GE} {b c d : Nat} (h : In E b c) (k : In G c d) {F : Nat → Nat → Prop} (hF : ∀ s t, F s t → E.fol s t ∨ G.fol s t ∨ (E.lst s ∧ G.fst t)) {s t : Nat} {a e : Int} (r : Rn T F s a t e) (hs : s < c) :
    (t < c ∧ Rn T E.fol s a t e) ∨ ∃ u m v w, Rn T E.fol s a u m ∧ E.lst u ∧ G.fst v ∧ T v m w ∧ Rn T G.fol v w t e ∧ c ≤ t := by
  induction r with
  | refl s a => exact .inl ⟨hs, .refl s a⟩
  | step s t u a m e hf kk r ih =>
    rcases hF s t hf with hf | hf | ⟨h1, h2⟩
    · have := h.fol s t hf
      rcases ih (by omega) with ⟨i1, i2⟩ | ⟨u', m', v, w, j1, j2, j3, j4, j5, j6⟩
      · exact .inl ⟨i1, .step _ _ _ _ _ _ hf kk i2⟩
      · exact .inr ⟨u', m', v, w, .step _ _ _ _ _ _ hf kk j1, j2, j3, j4, j5, j6⟩
    · have := k.fol s t hf; omega
    · have := k.fst t h2
      obtain ⟨i1, i2⟩ := Rn.right h k hF r (by omega)
      exact .inr ⟨s, a, t, m, .refl s a, h1, h2, kk, i1, i2⟩
theorem acc_cat {E G : GE} {b c d : Nat} (h : In E b c) (k : In G c d) {a e : Int} : Acc T (catE E G) a e ↔ ∃ m, Acc T E a m ∧ Acc T G m e := by
  constructor
  · rintro (⟨⟨h1, h2⟩, rfl⟩ | ⟨s, m, t, hf, hT, hr, hl⟩)
    · exact ⟨a, .inl ⟨h1, rfl⟩, .inl ⟨h2, rfl⟩⟩
    · rcases hf with hf | ⟨hn, hf⟩
      · have hs := h.fst s hf
        rcases Rn.left h k (fun _ _ x => x) hr (by omega) with ⟨i1, i2⟩ | ⟨u, m', v, w, j1, j2, j3, j4, j5, j6⟩
        · rcases hl with ⟨hl, hn⟩ | hl
          · exact ⟨e, .inr ⟨s, m, t, hf, hT, i2, hl⟩, .inl ⟨hn, rfl⟩⟩
          · have := k.lst t hl; omega
        · rcases hl with ⟨hl, hn⟩ | hl
          · have := h.lst t hl; omega
          · exact ⟨m', .inr ⟨s, m, u, hf, hT, j1, j2⟩, .inr ⟨v, w, t, j3, j4, j5, hl⟩⟩
      · have hs := k.fst s hf
        obtain ⟨i1, i2⟩ := Rn.right h k (fun _ _ x => x) hr (by omega)
        rcases hl with ⟨hl, _⟩ | hl
        · have := h.lst t hl; omega
        · exact ⟨a, .inl ⟨hn, rfl⟩, .inr ⟨s, m, t, hf, hT, i1, hl⟩⟩
  · rintro ⟨m, (⟨h1, rfl⟩ | ⟨s, m1, t, hf, hT, hr, hl⟩), (⟨h2, rfl⟩ | ⟨s2, m2, t2, hf2, hT2, hr2, hl2⟩)⟩
    · exact .inl ⟨⟨h1, h2⟩, rfl⟩
    · exact .inr ⟨s2, m2, t2, .inr ⟨h1, hf2⟩, hT2, hr2.mono fun _ _ x => .inr (.inl x), .inr hl2⟩
    · exact .inr ⟨s, m1, t, .inl hf, hT, hr.mono fun _ _ x => .inl x, .inl ⟨hl, h2⟩⟩
    · exact .inr ⟨s, m1, t2, .inl hf, hT, (hr.mono fun _ _ x => .inl x).trans (.step _ _ _ _ _ _ (.inr (.inr ⟨hl, hf2⟩)) hT2 (hr2.mono fun _ _ x => .inr (.inl x))), .inr hl2⟩
theorem acc_alt {E G : GE} {b c d : Nat} (h : In E b c) (k : In G c d) {a e : Int} : Acc T (altE E G) a e ↔ Acc T E a e ∨ Acc T G a e := by
  have hF : ∀ s t, (altE E G).fol s t → E.fol s t ∨ G.fol s t ∨ (E.lst s ∧ (fun _ => False) t) := fun s t x => x.elim .inl (fun x => .inr (.inl x))
  have k' : In ⟨G.nul, fun _ => False, G.lst, G.fol⟩ c d := ⟨fun s hs => hs.elim, k.lst, k.fol⟩
  constructor
  · rintro (⟨h1 | h1, rfl⟩ | ⟨s, m, t, hf, hT, hr, hl⟩)
    · exact .inl (.inl ⟨h1, rfl⟩)
    · exact .inr (.inl ⟨h1, rfl⟩)
    · rcases hf with hf | hf
      · have hs := h.fst s hf
        rcases Rn.left (G := ⟨G.nul, fun _ => False, G.lst, G.fol⟩) h k' hF hr (by omega) with ⟨i1, i2⟩ | ⟨u, m', v, w, j1, j2, j3, j4, j5, j6⟩
        · rcases hl with hl | hl
          · exact .inl (.inr ⟨s, m, t, hf, hT, i2, hl⟩)
          · have := k.lst t hl; omega
        · exact j3.elim
      · have hs := k.fst s hf
        obtain ⟨i1, i2⟩ := Rn.right (G := ⟨G.nul, fun _ => False, G.lst, G.fol⟩) h k' hF hr (by omega)
        rcases hl with hl | hl
        · have := h.lst t hl; omega
        · exact .inr (.inr ⟨s, m, t, hf, hT, i1, hl⟩)
  · rintro ((⟨h1, rfl⟩ | ⟨s, m, t, hf, hT, hr, hl⟩) | (⟨h1, rfl⟩ | ⟨s, m, t, hf, hT, hr, hl⟩))
    · exact .inl ⟨.inl h1, rfl⟩
    · exact .inr ⟨s, m, t, .inl hf, hT, hr.mono fun _ _ x => .inl x, .inl hl⟩
    · exact .inl ⟨.inr h1, rfl⟩
    · exact .inr ⟨s, m, t, .inr hf, hT, hr.mono fun _ _ x => .inr x, .inr hl⟩
end
end Go.Rf

