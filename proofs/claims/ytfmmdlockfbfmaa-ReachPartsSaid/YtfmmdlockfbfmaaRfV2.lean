import Derived.Test.YtfmmdlockfbfmaaRfR14
/- Own work: what a form matches, as a relation of places; no program in sight. -/
set_option linter.unusedVariables false
set_option linter.unusedSimpArgs false
namespace Go.Rf
open Go.RowKit

inductive Clo (r : Int → Int → Prop) : Int → Int → Prop
  | one {a b : Int} (h : r a b) : Clo r a b
  | more {a b c : Int} (h : Clo r a b) (k : r b c) : Clo r a c
theorem Clo.trans {r : Int → Int → Prop} {a b c : Int} (h : Clo r a b) (k : Clo r b c) : Clo r a c := by
  induction k with
  | one k => exact .more h k
  | more _ k ih => exact .more ih k
mutual
def MR (S : List Int → Int → Int → Prop) : Pat → Int → Int → Prop
  | .mk k _ g ks, a, b => if k = 1 then a = b else if k = 2 then S g a b else if k = 3 then MA S ks a b else if k = 4 then MO S ks a b else if k = 7 ∨ k = 5 ∨ k = 6 then MG S ks k a b else False
def MA (S : List Int → Int → Int → Prop) : List Pat → Int → Int → Prop
  | [], a, b => a = b
  | q :: qs, a, b => ∃ m, MR S q a m ∧ MA S qs m b
def MO (S : List Int → Int → Int → Prop) : List Pat → Int → Int → Prop
  | [], _, _ => False
  | q :: qs, a, b => MR S q a b ∨ MO S qs a b
def MG (S : List Int → Int → Int → Prop) : List Pat → Int → Int → Int → Prop
  | [q], k, a, b => (k ≠ 6 ∧ a = b) ∨ (if k = 7 then MR S q a b else Clo (MR S q) a b)
  | _, _, _, _ => False
end
/-- One sign of a list. -/
def stp (l : List Int) (g : List Int) (a b : Int) : Prop := b = a + 1 ∧ 0 ≤ a ∧ a < l.length ∧ l.getD a.toNat 0 ∈ g
/-! ### the closure, as it is come to -/
theorem addA_pre2 (xs : List Int) : ∀ (acc : List Int), ∃ t, addA acc xs = acc ++ t := by
  induction xs with
  | nil => intro acc; exact ⟨[], by simp [addA]⟩
  | cons x xs ih =>
    intro acc
    simp only [addA]
    obtain ⟨t, ht⟩ := ih (if acc.contains x = true then acc else acc ++ [x])
    split at ht
    · exact ⟨t, by rw [if_pos (by assumption)]; exact ht⟩
    · rw [if_neg (by assumption)]
      exact ⟨[x] ++ t, by rw [ht]; simp⟩
theorem cloL_mem {v : Int → List Int} {n : Nat} {at_ : Int} (hv : ∀ x : Int, 0 ≤ x → x ≤ n → ∀ y ∈ v x, 0 ≤ y ∧ y ≤ (n : Int)) (h0 : 0 ≤ at_ ∧ at_ ≤ n) :
    ∀ (f : Nat) (met : List Int) (i : Nat), met.Nodup → (∀ x ∈ met, 0 ≤ x ∧ x ≤ (n : Int)) → i ≤ met.length → n + 2 ≤ f + i → (∀ y ∈ v at_, y ∈ met) → (∀ x ∈ met, Clo (fun a b => b ∈ v a) at_ x) →
      (∀ j (h : j < met.length), j < i → ∀ y ∈ v met[j], y ∈ met) → ∀ y, y ∈ cloL v f met i ↔ Clo (fun a b => b ∈ v a) at_ y := by
  have done : ∀ (met : List Int), (∀ y ∈ v at_, y ∈ met) → (∀ x ∈ met, ∀ y ∈ v x, y ∈ met) → ∀ y, Clo (fun a b => b ∈ v a) at_ y → y ∈ met := by
    intro met h1 h2 y hy
    induction hy with
    | one h => exact h1 _ h
    | more h k ih => exact h2 _ ih _ k
  intro f
  induction f with
  | zero =>
    intro met i hnd hb hi hf h1 h2 h3 y
    have := nodup_len (n + 1) hnd (fun x hx => by have := hb x hx; omega)
    omega
  | succ f ih =>
    intro met i hnd hb hi hf h1 h2 h3 y
    simp only [cloL]
    split
    · rename_i hlt
      have hbi := hb _ (List.getElem_mem hlt)
      obtain ⟨t, ht⟩ := addA_pre2 (v met[i]) met
      have hlen : met.length ≤ (addA met (v met[i])).length := by rw [ht]; simp
      refine ih _ _ (addA_nodup hnd) (fun x hx => ?_) (by omega) (by omega) (fun y hy => mem_addA.mpr (.inl (h1 y hy))) (fun x hx => ?_) (fun j hj hji y hy => ?_) y
      · rcases mem_addA.mp hx with hx | hx
        · exact hb x hx
        · exact hv _ hbi.1 hbi.2 x hx
      · rcases mem_addA.mp hx with hx | hx
        · exact h2 x hx
        · exact .more (h2 _ (List.getElem_mem hlt)) hx
      · have hjm : j < met.length := by omega
        have e : (addA met (v met[i]))[j] = met[j] := by simp only [ht]; exact List.getElem_append_left hjm
        rw [e] at hy
        by_cases hji2 : j = i
        · subst hji2; exact mem_addA.mpr (.inr hy)
        · exact mem_addA.mpr (.inl (h3 j hjm (by omega) y hy))
    · rename_i hlt
      have hie : i = met.length := by omega
      refine ⟨fun h => h2 y h, fun h => done met h1 (fun x hx y hy => ?_) y h⟩
      obtain ⟨j, hj, rfl⟩ := List.mem_iff_getElem.mp hx
      exact h3 j hj (by omega) y hy
theorem agn_mem {v : Int → List Int} {n : Nat} {k at_ : Int} (hv : ∀ x : Int, 0 ≤ x → x ≤ n → ∀ y ∈ v x, 0 ≤ y ∧ y ≤ (n : Int)) (h0 : 0 ≤ at_ ∧ at_ ≤ n) (y : Int) :
    y ∈ agn v k n at_ ↔ (k ≠ 6 ∧ at_ = y) ∨ (if k = 7 then y ∈ v at_ else Clo (fun a b => b ∈ v a) at_ y) := by
  unfold agn
  rw [List.mem_append]
  have h1 : y ∈ (if k = 6 then ([] : List Int) else [at_]) ↔ k ≠ 6 ∧ at_ = y := by
    by_cases h : k = 6
    · simp [h]
    · simp [h]; exact ⟨fun e => e.symm, fun e => e.symm⟩
  rw [h1]
  by_cases h7 : k = 7
  · rw [if_pos h7, if_pos h7, mem_ddp]
  · rw [if_neg h7, if_neg h7]
    have := cloL_mem hv h0 (n + 2) (ddp (v at_)) 0 (ddp_nodup _) (fun x hx => hv _ h0.1 h0.2 x (mem_ddp.mp hx)) (Nat.zero_le _) (by omega) (fun y hy => mem_ddp.mpr hy) (fun x hx => .one (mem_ddp.mp hx)) (fun j hj h => by omega) y
    rw [this]
theorem Clo.congr {r s : Int → Int → Prop} {lo hi : Int} (hrs : ∀ a b, lo ≤ a → a ≤ hi → (r a b ↔ s a b)) (hb : ∀ a b, lo ≤ a → a ≤ hi → r a b → lo ≤ b ∧ b ≤ hi) {a b : Int} (ha : lo ≤ a ∧ a ≤ hi) : Clo r a b ↔ Clo s a b := by
  constructor
  · intro h
    have key : ∀ {b}, Clo r a b → (lo ≤ b ∧ b ≤ hi) ∧ Clo s a b := by
      intro b h
      induction h with
      | one h => exact ⟨hb _ _ ha.1 ha.2 h, .one ((hrs _ _ ha.1 ha.2).mp h)⟩
      | more _ k ih =>
        obtain ⟨h1, h2⟩ := ih
        exact ⟨hb _ _ h1.1 h1.2 k, .more h2 ((hrs _ _ h1.1 h1.2).mp k)⟩
    exact (key h).2
  · intro h
    have key : ∀ {b}, Clo s a b → (lo ≤ b ∧ b ≤ hi) ∧ Clo r a b := by
      intro b h
      induction h with
      | one h => have h' := (hrs _ _ ha.1 ha.2).mpr h; exact ⟨hb _ _ ha.1 ha.2 h', .one h'⟩
      | more _ k ih =>
        obtain ⟨h1, h2⟩ := ih
        have h' := (hrs _ _ h1.1 h1.2).mpr k
        exact ⟨hb _ _ h1.1 h1.2 h', .more h2 h'⟩
    exact (key h).2
/-! ### what is told is the relation -/
mutual
theorem visits_MR (l : List Int) : ∀ (p : Pat) (a b : Int), 0 ≤ a → a ≤ l.length → (b ∈ visits l p a ↔ MR (stp l) p a b)
  | .mk k s g ks, a, b, h0, hn => by
    rw [visits, MR]
    by_cases h1 : k = 1
    · rw [if_pos h1, if_pos h1]; simp; exact ⟨fun e => e.symm, fun e => e.symm⟩
    · rw [if_neg h1, if_neg h1]
      by_cases h2 : k = 2
      · rw [if_pos h2, if_pos h2]
        unfold stp
        by_cases hc : a < l.length ∧ g.contains (l.getD a.toNat 0) = true
        · rw [if_pos hc]
          have hm : l.getD a.toNat 0 ∈ g := by simpa using hc.2
          simp only [List.mem_cons, List.not_mem_nil, or_false]
          exact ⟨fun e => ⟨e, h0, hc.1, hm⟩, fun e => e.1⟩
        · rw [if_neg hc]
          simp only [List.not_mem_nil, false_iff]
          rintro ⟨_, _, h3, h4⟩
          exact hc ⟨h3, by simpa using h4⟩
      · rw [if_neg h2, if_neg h2]
        by_cases h3 : k = 3
        · rw [if_pos h3, if_pos h3, visAll_MA l ks [a] b (by simp; exact ⟨h0, hn⟩)]; simp
        · rw [if_neg h3, if_neg h3]
          by_cases h4 : k = 4
          · rw [if_pos h4, if_pos h4, visOr_MO l ks a b h0 hn]
          · rw [if_neg h4, if_neg h4]
            by_cases h5 : k = 7 ∨ k = 5 ∨ k = 6
            · rw [if_pos h5, if_pos h5]; exact visAg_MG l ks k a b h0 hn
            · rw [if_neg h5, if_neg h5]; simp
theorem visAll_MA (l : List Int) : ∀ (ks : List Pat) (cur : List Int) (b : Int), (∀ x ∈ cur, 0 ≤ x ∧ x ≤ l.length) → (b ∈ visAll l ks cur ↔ ∃ a ∈ cur, MA (stp l) ks a b)
  | [], cur, b, h => by rw [visAll]; simp [MA]
  | q :: qs, cur, b, h => by
    rw [visAll, visAll_MA l qs _ b (fun x hx => by
      obtain ⟨a, ha, hx2⟩ := List.mem_flatMap.mp (mem_ddp.mp hx)
      have h1 := h a ha
      have := visits_bd l q a h1.1 h1.2 x hx2
      omega)]
    constructor
    · rintro ⟨m, hm, hr⟩
      obtain ⟨a, ha, hx2⟩ := List.mem_flatMap.mp (mem_ddp.mp hm)
      have h1 := h a ha
      exact ⟨a, ha, by rw [MA]; exact ⟨m, (visits_MR l q a m h1.1 h1.2).mp hx2, hr⟩⟩
    · rintro ⟨a, ha, hr⟩
      rw [MA] at hr
      obtain ⟨m, h2, h3⟩ := hr
      have h1 := h a ha
      exact ⟨m, mem_ddp.mpr (List.mem_flatMap.mpr ⟨a, ha, (visits_MR l q a m h1.1 h1.2).mpr h2⟩), h3⟩
theorem visOr_MO (l : List Int) : ∀ (ks : List Pat) (a b : Int), 0 ≤ a → a ≤ l.length → (b ∈ visOr l ks a ↔ MO (stp l) ks a b)
  | [], a, b, _, _ => by rw [visOr, MO]; simp
  | q :: qs, a, b, h0, hn => by rw [visOr, MO, List.mem_append, visits_MR l q a b h0 hn, visOr_MO l qs a b h0 hn]
theorem visAg_MG (l : List Int) : ∀ (ks : List Pat) (k a b : Int), 0 ≤ a → a ≤ l.length → (b ∈ visAg l ks k a ↔ MG (stp l) ks k a b)
  | [q], k, a, b, h0, hn => by
    rw [visAg, MG, agn_mem (fun x hx hy y hm => by have := visits_bd l q x hx hy y hm; omega) ⟨h0, hn⟩]
    have e1 : (if k = 7 then b ∈ visits l q a else Clo (fun a b => b ∈ visits l q a) a b) ↔ (if k = 7 then MR (stp l) q a b else Clo (MR (stp l) q) a b) := by
      by_cases h7 : k = 7
      · rw [if_pos h7, if_pos h7]; exact visits_MR l q a b h0 hn
      · rw [if_neg h7, if_neg h7]
        exact Clo.congr (lo := 0) (hi := l.length) (fun x y hx hy => visits_MR l q x y hx hy) (fun x y hx hy hm => by have := visits_bd l q x hx hy y hm; omega) ⟨h0, hn⟩
    rw [e1]
  | [], k, a, b, _, _ => by rw [visAg, MG] <;> simp
  | q :: r :: qs, k, a, b, _, _ => by rw [visAg, MG] <;> simp
end
theorem endsP_MR {p : Pat} {l : List Int} {a b : Int} : b ∈ endsP p l a ↔ 0 ≤ a ∧ a ≤ l.length ∧ MR (stp l) p a b := by
  unfold endsP
  by_cases h : a < 0 ∨ (l.length : Int) < a
  · rw [if_pos h]; simp; intro h1 h2; omega
  · rw [if_neg h, (List.mergeSort_perm _ _).mem_iff, mem_ddp, visits_MR l p a b (by omega) (by omega)]
    constructor
    · intro hm; exact ⟨by omega, by omega, hm⟩
    · exact fun hm => hm.2.2
theorem matP_MR {p : Pat} {l : List Int} {a b : Int} : matP p l a b = true ↔ 0 ≤ a ∧ a ≤ l.length ∧ MR (stp l) p a b := by
  unfold matP; rw [List.contains_iff_mem, endsP_MR]
/-! ### from one list to another -/
def Inc (S : List Int → Int → Int → Prop) : Prop := ∀ g a b, S g a b → a < b
theorem clo_le {r : Int → Int → Prop} (h : ∀ a b, r a b → a ≤ b) {a b : Int} (k : Clo r a b) : a ≤ b := by
  induction k with
  | one k => exact h _ _ k
  | more _ k ih => have := h _ _ k; omega
mutual
theorem MR_inc {S : List Int → Int → Int → Prop} (hS : Inc S) : ∀ (p : Pat) (a b : Int), MR S p a b → a ≤ b
  | .mk k s g ks, a, b, h => by
    rw [MR] at h
    split at h
    · omega
    · split at h
      · have := hS _ _ _ h; omega
      · split at h
        · exact MA_inc hS ks a b h
        · split at h
          · exact MO_inc hS ks a b h
          · split at h
            · exact MG_inc hS ks k a b h
            · exact h.elim
theorem MA_inc {S : List Int → Int → Int → Prop} (hS : Inc S) : ∀ (ks : List Pat) (a b : Int), MA S ks a b → a ≤ b
  | [], a, b, h => by rw [MA] at h; omega
  | q :: qs, a, b, h => by
    rw [MA] at h
    obtain ⟨m, h1, h2⟩ := h
    have := MR_inc hS q a m h1
    have := MA_inc hS qs m b h2
    omega
theorem MO_inc {S : List Int → Int → Int → Prop} (hS : Inc S) : ∀ (ks : List Pat) (a b : Int), MO S ks a b → a ≤ b
  | [], a, b, h => by rw [MO] at h; exact h.elim
  | q :: qs, a, b, h => by
    rw [MO] at h
    rcases h with h | h
    · exact MR_inc hS q a b h
    · exact MO_inc hS qs a b h
theorem MG_inc {S : List Int → Int → Int → Prop} (hS : Inc S) : ∀ (ks : List Pat) (k a b : Int), MG S ks k a b → a ≤ b
  | [q], k, a, b, h => by
    rw [MG] at h
    rcases h with h | h
    · omega
    · split at h
      · exact MR_inc hS q a b h
      · exact clo_le (fun a b h => MR_inc hS q a b h) h
  | [], k, a, b, h => by simp [MG] at h
  | q :: r :: qs, k, a, b, h => by simp [MG] at h
end
end Go.Rf


/- Own work: what a form matches hangs on what lies between; forms turned round. -/
set_option linter.unusedVariables false
set_option linter.unusedSimpArgs false
namespace Go.Rf
open Go.RowKit

theorem clo_hom {r s : Int → Int → Prop} {f : Int → Int} {lo hi : Int} (hle : ∀ a b, r a b → a ≤ b) (h : ∀ a b, lo ≤ a → b ≤ hi → r a b → s (f a) (f b)) {a b : Int} (ha : lo ≤ a) (k : Clo r a b) : b ≤ hi → Clo s (f a) (f b) := by
  induction k with
  | one k => intro hb; exact .one (h _ _ ha hb k)
  | more k1 k2 ih =>
    intro hb
    have h1 := clo_le hle k1
    have h2 := hle _ _ k2
    exact .more (ih (by omega)) (h _ _ (by omega) hb k2)
def Hom (S S' : List Int → Int → Int → Prop) (f : Int → Int) (lo hi : Int) : Prop := ∀ g x y, lo ≤ x → y ≤ hi → S g x y → S' g (f x) (f y)
mutual
theorem MR_hom {S S' : List Int → Int → Int → Prop} (hS : Inc S) {f : Int → Int} {lo hi : Int} (H : Hom S S' f lo hi) : ∀ (p : Pat) (a b : Int), lo ≤ a → b ≤ hi → MR S p a b → MR S' p (f a) (f b)
  | .mk k s g ks, a, b, ha, hb, h => by
    rw [MR] at h ⊢
    by_cases h1 : k = 1
    · rw [if_pos h1] at h ⊢; rw [h]
    · rw [if_neg h1] at h ⊢
      by_cases h2 : k = 2
      · rw [if_pos h2] at h ⊢; exact H g a b ha hb h
      · rw [if_neg h2] at h ⊢
        by_cases h3 : k = 3
        · rw [if_pos h3] at h ⊢; exact MA_hom hS H ks a b ha hb h
        · rw [if_neg h3] at h ⊢
          by_cases h4 : k = 4
          · rw [if_pos h4] at h ⊢; exact MO_hom hS H ks a b ha hb h
          · rw [if_neg h4] at h ⊢
            by_cases h5 : k = 7 ∨ k = 5 ∨ k = 6
            · rw [if_pos h5] at h ⊢; exact MG_hom hS H ks k a b ha hb h
            · rw [if_neg h5] at h; exact h.elim
theorem MA_hom {S S' : List Int → Int → Int → Prop} (hS : Inc S) {f : Int → Int} {lo hi : Int} (H : Hom S S' f lo hi) : ∀ (ks : List Pat) (a b : Int), lo ≤ a → b ≤ hi → MA S ks a b → MA S' ks (f a) (f b)
  | [], a, b, ha, hb, h => by rw [MA] at h ⊢; rw [h]
  | q :: qs, a, b, ha, hb, h => by
    rw [MA] at h ⊢
    obtain ⟨m, h1, h2⟩ := h
    have i1 := MR_inc hS q a m h1
    have i2 := MA_inc hS qs m b h2
    exact ⟨f m, MR_hom hS H q a m ha (by omega) h1, MA_hom hS H qs m b (by omega) hb h2⟩
theorem MO_hom {S S' : List Int → Int → Int → Prop} (hS : Inc S) {f : Int → Int} {lo hi : Int} (H : Hom S S' f lo hi) : ∀ (ks : List Pat) (a b : Int), lo ≤ a → b ≤ hi → MO S ks a b → MO S' ks (f a) (f b)
  | [], a, b, ha, hb, h => by rw [MO] at h; exact h.elim
  | q :: qs, a, b, ha, hb, h => by
    rw [MO] at h ⊢
    rcases h with h | h
    · exact .inl (MR_hom hS H q a b ha hb h)
    · exact .inr (MO_hom hS H qs a b ha hb h)
theorem MG_hom {S S' : List Int → Int → Int → Prop} (hS : Inc S) {f : Int → Int} {lo hi : Int} (H : Hom S S' f lo hi) : ∀ (ks : List Pat) (k a b : Int), lo ≤ a → b ≤ hi → MG S ks k a b → MG S' ks k (f a) (f b)
  | [q], k, a, b, ha, hb, h => by
    rw [MG] at h ⊢
    rcases h with ⟨h1, h2⟩ | h
    · exact .inl ⟨h1, by rw [h2]⟩
    · right
      by_cases h7 : k = 7
      · rw [if_pos h7] at h ⊢; exact MR_hom hS H q a b ha hb h
      · rw [if_neg h7] at h ⊢; exact clo_hom (fun a b h => MR_inc hS q a b h) (fun a b ha hb h => MR_hom hS H q a b ha hb h) ha h hb
  | [], k, a, b, _, _, h => by simp [MG] at h
  | q :: r :: qs, k, a, b, _, _, h => by simp [MG] at h
end
theorem stp_inc (l : List Int) : Inc (stp l) := fun g a b h => by have := h.1; omega
theorem getD_take_drop (l : List Int) (c n : Nat) (k : Nat) (hk : k < n) : ((l.drop c).take n).getD k 0 = l.getD (c + k) 0 := by
  simp only [List.getD_eq_getElem?_getD, List.getElem?_take, hk, if_true, List.getElem?_drop]
theorem len_td (l : List Int) (c n : Nat) (h : c + n ≤ l.length) : ((l.drop c).take n).length = n := by simp; omega
/-- What a form matches between two places is what it matches of what lies between. -/
theorem MR_part {p : Pat} {l : List Int} {c n a b : Nat} (h : c + n ≤ l.length) (hca : c ≤ a) (hb : b ≤ c + n) : MR (stp l) p a b ↔ MR (stp ((l.drop c).take n)) p (a - c) (b - c) := by
  have hl := len_td l c n h
  constructor
  · exact MR_hom (f := fun x => x - c) (lo := a) (hi := b) (stp_inc l) (fun g x y hx hy hs => by
      obtain ⟨h1, h2, h3, h4⟩ := hs
      show stp _ g (x - c) (y - c)
      refine ⟨by omega, by omega, by omega, ?_⟩
      rw [getD_take_drop l c n _ (by omega)]
      have : c + (x - (c : Int)).toNat = x.toNat := by omega
      rw [this]; exact h4) p a b (by omega) (by omega)
  · intro hm
    have := MR_hom (f := fun x => x + c) (lo := (a : Int) - c) (hi := (b : Int) - c) (stp_inc _) (S' := stp l) (fun g x y hx hy hs => by
      obtain ⟨h1, h2, h3, h4⟩ := hs
      show stp _ g (x + c) (y + c)
      refine ⟨by omega, by omega, by omega, ?_⟩
      rw [getD_take_drop l c n _ (by omega)] at h4
      have : c + x.toNat = (x + (c : Int)).toNat := by omega
      rw [← this]; exact h4) p _ _ (by omega) (by omega) hm
    have e1 : (a : Int) - c + c = a := by omega
    have e2 : (b : Int) - c + c = b := by omega
    simp only [e1, e2] at this
    exact this
theorem matP_part (p : Pat) (l : List Int) (a b : Nat) (hab : a ≤ b) (hb : b ≤ l.length) : matP p ((l.drop a).take (b - a)) 0 ((b : Int) - a) = matP p l a b := by
  rw [Bool.eq_iff_iff, matP_MR, matP_MR, MR_part (c := a) (n := b - a) (by omega) (Nat.le_refl _) (by omega), len_td l a (b - a) (by omega)]
  have e : (a : Int) - a = 0 := by omega
  rw [e]
  constructor
  · rintro ⟨h1, h2, h3⟩; exact ⟨by omega, by omega, h3⟩
  · rintro ⟨h1, h2, h3⟩; exact ⟨by omega, by omega, h3⟩
theorem matP_take (p : Pat) (l : List Int) (a b : Nat) (hab : a ≤ b) (hb : b ≤ l.length) : matP p (l.take b) a b = matP p l a b := by
  have := MR_part (p := p) (l := l) (c := 0) (n := b) (a := a) (b := b) (by omega) (by omega) (by omega)
  rw [Bool.eq_iff_iff, matP_MR, matP_MR, this]
  simp only [List.drop_zero, List.length_take, Int.natCast_zero, Int.sub_zero, Int.ofNat_zero]
  constructor
  · rintro ⟨h1, h2, h3⟩; exact ⟨by omega, by omega, by simpa using h3⟩
  · rintro ⟨h1, h2, h3⟩; exact ⟨by omega, by omega, by simpa using h3⟩
theorem matP_null (p : Pat) (l : List Int) (a : Nat) (ha : a ≤ l.length) : matP p l a a = matP p [] 0 0 := by
  have := matP_part p l a a (Nat.le_refl _) ha
  rw [← this]; simp
theorem matP_neg (p : Pat) (l : List Int) (b : Int) : matP p l (-1) b = false := by
  rw [Bool.eq_false_iff]; intro h; have := (matP_MR.mp h).1; omega
theorem matP_far (p : Pat) (l : List Int) (a b : Int) (hb : (l.length : Int) < b) : matP p l a b = false := by
  rw [Bool.eq_false_iff]
  intro h
  unfold matP at h
  rw [List.contains_iff_mem] at h
  have := endsP_bd _ h
  omega
/-! ### forms turned round -/
end Go.Rf

