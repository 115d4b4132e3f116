import Derived.Test.YtfmmdlockfbfmaaRfR14
/- Own work: what a form matches, as a relation of places; no program in sight. -/
set_option linter.unusedVariables false
set_option linter.unusedSimpArgs false
namespace Go.Rf
open Go.RowKit

inductive Clo (r : Int → Int → Prop) : Int → Int → Prop
  | one {a b : Int} (h : r a b) : Clo r a b
  | more {a b c : Int} (h : Clo r a b) (k : r b c) : Clo r a c
theorem Clo.trans {r : Int → Int → Prop} {a b c : Int} (h : Clo r a b) (k : Clo r b c) : Clo r a c := by
  induction k with
  | one k => exact .more h k
  | more _ k ih => exact .more ih k
theorem Clo.head {r : Int → Int → Prop} {a c : Int} (h : Clo r a c) : ∃ b, r a b ∧ (b = c ∨ Clo r b c) := by
  induction h with
  | one h => exact ⟨_, h, .inl rfl⟩
  | more h k ih =>
    obtain ⟨b, h1, h2⟩ := ih
    refine ⟨b, h1, .inr ?_⟩
    rcases h2 with rfl | h2
    · exact .one k
    · exact .more h2 k
mutual
def MR (S : List Int → Int → Int → Prop) : Pat → Int → Int → Prop
  | .mk k _ g ks, a, b => if k = 1 then a = b else if k = 2 then S g a b else if k = 3 then MA S ks a b else if k = 4 then MO S ks a b else if k = 7 ∨ k = 5 ∨ k = 6 then MG S ks k a b else False
def MA (S : List Int → Int → Int → Prop) : List Pat → Int → Int → Prop
  | [], a, b => a = b
  | q :: qs, a, b => ∃ m, MR S q a m ∧ MA S qs m b
def MO (S : List Int → Int → Int → Prop) : List Pat → Int → Int → Prop
  | [], _, _ => False
  | q :: qs, a, b => MR S q a b ∨ MO S qs a b
def MG (S : List Int → Int → Int → Prop) : List Pat → Int → Int → Int → Prop
  | [q], k, a, b => (k ≠ 6 ∧ a = b) ∨ (if k = 7 then MR S q a b else Clo (MR S q) a b)
  | _, _, _, _ => False
end
/-- One sign of a list. -/
def stp (l : List Int) (g : List Int) (a b : Int) : Prop := b = a + 1 ∧ 0 ≤ a ∧ a < l.length ∧ l.getD a.toNat 0 ∈ g
/-! ### the closure, as it is come to -/
theorem addA_pre2 (xs : List Int) : ∀ (acc : List Int), ∃ t, addA acc xs = acc ++ t := by
  induction xs with
  | nil => intro acc; exact ⟨[], by simp [addA]⟩
  | cons x xs ih =>
    intro acc
    simp only [addA]
    obtain ⟨t, ht⟩ := ih (if acc.contains x = true then acc else acc ++ [x])
    split at ht
    · exact ⟨t, by rw [if_pos (by assumption)]; exact ht⟩
    · rw [if_neg (by assumption)]
      exact ⟨[x] ++ t, by rw [ht]; simp⟩
theorem cloL_mem {v : Int → List Int} {n : Nat} {at_ : Int} (hv : ∀ x : Int, 0 ≤ x → x ≤ n → ∀ y ∈ v x, 0 ≤ y ∧ y ≤ (n : Int)) (h0 : 0 ≤ at_ ∧ at_ ≤ n) :
    ∀ (f : Nat) (met : List Int) (i : Nat), met.Nodup → (∀ x ∈ met, 0 ≤ x ∧ x ≤ (n : Int)) → i ≤ met.length → n + 2 ≤ f + i → (∀ y ∈ v at_, y ∈ met) → (∀ x ∈ met, Clo (fun a b => b ∈ v a) at_ x) →
      (∀ j (h : j < met.length), j < i → ∀ y ∈ v met[j], y ∈ met) → ∀ y, y ∈ cloL v f met i ↔ Clo (fun a b => b ∈ v a) at_ y := by
  have done : ∀ (met : List Int), (∀ y ∈ v at_, y ∈ met) → (∀ x ∈ met, ∀ y ∈ v x, y ∈ met) → ∀ y, Clo (fun a b => b ∈ v a) at_ y → y ∈ met := by
    intro met h1 h2 y hy
    induction hy with
    | one h => exact h1 _ h
    | more h k ih => exact h2 _ ih _ k
  intro f
  induction f with
  | zero =>
    intro met i hnd hb hi hf h1 h2 h3 y
    have := nodup_len (n + 1) hnd (fun x hx => by have := hb x hx; omega)
    omega
  | succ f ih =>
    intro met i hnd hb hi hf h1 h2 h3 y
    simp only [cloL]
    split
    · rename_i hlt
      have hbi := hb _ (List.getElem_mem hlt)
      obtain ⟨t, ht⟩ := addA_pre2 (v met[i]) met
      have hlen : met.length ≤ (addA met (v met[i])).length := by rw [ht]; simp
      refine ih _ _ (addA_nodup hnd) (fun x hx => ?_) (by omega) (by omega) (fun y hy => mem_addA.mpr (.inl (h1 y hy))) (fun x hx => ?_) (fun j hj hji y hy => ?_) y
      · rcases mem_addA.mp hx with hx | hx
        · exact hb x hx
        · exact hv _ hbi.1 hbi.2 x hx
      · rcases mem_addA.mp hx with hx | hx
        · exact h2 x hx
        · exact .more (h2 _ (List.getElem_mem hlt)) hx
      · have hjm : j < met.length := by omega
        have e : (addA met (v met[i]))[j] = met[j] := by simp only [ht]; exact List.getElem_append_left hjm
        rw [e] at hy
        by_cases hji2 : j = i
        · subst hji2; exact mem_addA.mpr (.inr hy)
        · exact mem_addA.mpr (.inl (h3 j hjm (by omega) y hy))
    · rename_i hlt
      have hie : i = met.length := by omega
      refine ⟨fun h => h2 y h, fun h => done met h1 (fun x hx y hy => ?_) y h⟩
      obtain ⟨j, hj, rfl⟩ := List.mem_iff_getElem.mp hx
      exact h3 j hj (by omega) y hy
theorem agn_mem {v : Int → List Int} {n : Nat} {k at_ : Int} (hv : ∀ x : Int, 0 ≤ x → x ≤ n → ∀ y ∈ v x, 0 ≤ y ∧ y ≤ (n : Int)) (h0 : 0 ≤ at_ ∧ at_ ≤ n) (y : Int) :
    y ∈ agn v k n at_ ↔ (k ≠ 6 ∧ at_ = y) ∨ (if k = 7 then y ∈ v at_ else Clo (fun a b => b ∈ v a) at_ y) := by
  unfold agn
  rw [List.mem_append]
  have h1 : y ∈ (if k = 6 then ([] : List Int) else [at_]) ↔ k ≠ 6 ∧ at_ = y := by
    by_cases h : k = 6
    · simp [h]
    · simp [h]; exact ⟨fun e => e.symm, fun e => e.symm⟩
  rw [h1]
  by_cases h7 : k = 7
  · rw [if_pos h7, if_pos h7, mem_ddp]
  · rw [if_neg h7, if_neg h7]
    have := cloL_mem hv h0 (n + 2) (ddp (v at_)) 0 (ddp_nodup _) (fun x hx => hv _ h0.1 h0.2 x (mem_ddp.mp hx)) (Nat.zero_le _) (by omega) (fun y hy => mem_ddp.mpr hy) (fun x hx => .one (mem_ddp.mp hx)) (fun j hj h => by omega) y
    rw [this]
theorem Clo.congr {r s : Int → Int → Prop} {lo hi : Int} (hrs : ∀ a b, lo ≤ a → a ≤ hi → (r a b ↔ s a b)) (hb : ∀ a b, lo ≤ a → a ≤ hi → r a b → lo ≤ b ∧ b ≤ hi) {a b : Int} (ha : lo ≤ a ∧ a ≤ hi) : Clo r a b ↔ Clo s a b := by
  constructor
  · intro h
    have key : ∀ {b}, Clo r a b → (lo ≤ b ∧ b ≤ hi) ∧ Clo s a b := by
      intro b h
      induction h with
      | one h => exact ⟨hb _ _ ha.1 ha.2 h, .one ((hrs _ _ ha.1 ha.2).mp h)⟩
      | more _ k ih =>
        obtain ⟨h1, h2⟩ := ih
        exact ⟨hb _ _ h1.1 h1.2 k, .more h2 ((hrs _ _ h1.1 h1.2).mp k)⟩
    exact (key h).2
  · intro h
    have key : ∀ {b}, Clo s a b → (lo ≤ b ∧ b ≤ hi) ∧ Clo r a b := by
      intro b h
      induction h with
      | one h => have h' := (hrs _ _ ha.1 ha.2).mpr h; exact ⟨hb _ _ ha.1 ha.2 h', .one h'⟩
      | more _ k ih =>
        obtain ⟨h1, h2⟩ := ih
        have h' := (hrs _ _ h1.1 h1.2).mpr k
        exact ⟨hb _ _ h1.1 h1.2 h', .more h2 h'⟩
    exact (key h).2
/-! ### what is told is the relation -/
mutual
theorem visits_MR (l : List Int) : ∀ (p : Pat) (a b : Int), 0 ≤ a → a ≤ l.length → (b ∈ visits l p a ↔ MR (stp l) p a b)
  | .mk k s g ks, a, b, h0, hn => by
    rw [visits, MR]
    by_cases h1 : k = 1
    · rw [if_pos h1, if_pos h1]; simp; exact ⟨fun e => e.symm, fun e => e.symm⟩
    · rw [if_neg h1, if_neg h1]
      by_cases h2 : k = 2
      · rw [if_pos h2, if_pos h2]
        unfold stp
        by_cases hc : a < l.length ∧ g.contains (l.getD a.toNat 0) = true
        · rw [if_pos hc]
          have hm : l.getD a.toNat 0 ∈ g := by simpa using hc.2
          simp only [List.mem_cons, List.not_mem_nil, or_false]
          exact ⟨fun e => ⟨e, h0, hc.1, hm⟩, fun e => e.1⟩
        · rw [if_neg hc]
          simp only [List.not_mem_nil, false_iff]
          rintro ⟨_, _, h3, h4⟩
          exact hc ⟨h3, by simpa using h4⟩
      · rw [if_neg h2, if_neg h2]
        by_cases h3 : k = 3
        · rw [if_pos h3, if_pos h3, visAll_MA l ks [a] b (by simp; exact ⟨h0, hn⟩)]; simp
        · rw [if_neg h3, if_neg h3]
          by_cases h4 : k = 4
          · rw [if_pos h4, if_pos h4, visOr_MO l ks a b h0 hn]
          · rw [if_neg h4, if_neg h4]
            by_cases h5 : k = 7 ∨ k = 5 ∨ k = 6
            · rw [if_pos h5, if_pos h5]; exact visAg_MG l ks k a b h0 hn
            · rw [if_neg h5, if_neg h5]; simp
theorem visAll_MA (l : List Int) : ∀ (ks : List Pat) (cur : List Int) (b : Int), (∀ x ∈ cur, 0 ≤ x ∧ x ≤ l.length) → (b ∈ visAll l ks cur ↔ ∃ a ∈ cur, MA (stp l) ks a b)
  | [], cur, b, h => by rw [visAll]; simp [MA]
  | q :: qs, cur, b, h => by
    rw [visAll, visAll_MA l qs _ b (fun x hx => by
      obtain ⟨a, ha, hx2⟩ := List.mem_flatMap.mp (mem_ddp.mp hx)
      have h1 := h a ha
      have := visits_bd l q a h1.1 h1.2 x hx2
      omega)]
    constructor
    · rintro ⟨m, hm, hr⟩
      obtain ⟨a, ha, hx2⟩ := List.mem_flatMap.mp (mem_ddp.mp hm)
      have h1 := h a ha
      exact ⟨a, ha, by rw [MA]; exact ⟨m, (visits_MR l q a m h1.1 h1.2).mp hx2, hr⟩⟩
    · rintro ⟨a, ha, hr⟩
      rw [MA] at hr
      obtain ⟨m, h2, h3⟩ := hr
      have h1 := h a ha
      exact ⟨m, mem_ddp.mpr (List.mem_flatMap.mpr ⟨a, ha, (visits_MR l q a m h1.1 h1.2).mpr h2⟩), h3⟩
theorem visOr_MO (l : List Int) : ∀ (ks : List Pat) (a b : Int), 0 ≤ a → a ≤ l.length → (b ∈ visOr l ks a ↔ MO (stp l) ks a b)
  | [], a, b, _, _ => by rw [visOr, MO]; simp
  | q :: qs, a, b, h0, hn => by rw [visOr, MO, List.mem_append, visits_MR l q a b h0 hn, visOr_MO l qs a b h0 hn]
theorem visAg_MG (l : List Int) : ∀ (ks : List Pat) (k a b : Int), 0 ≤ a → a ≤ l.length → (b ∈ visAg l ks k a ↔ MG (stp l) ks k a b)
  | [q], k, a, b, h0, hn => by
    rw [visAg, MG, agn_mem (fun x hx hy y hm => by have := visits_bd l q x hx hy y hm; omega) ⟨h0, hn⟩]
    have e1 : (if k = 7 then b ∈ visits l q a else Clo (fun a b => b ∈ visits l q a) a b) ↔ (if k = 7 then MR (stp l) q a b else Clo (MR (stp l) q) a b) := by
      by_cases h7 : k = 7
      · rw [if_pos h7, if_pos h7]; exact visits_MR l q a b h0 hn
      · rw [if_neg h7, if_neg h7]
        exact Clo.congr (lo := 0) (hi := l.length) (fun x y hx hy => visits_MR l q x y hx hy) (fun x y hx hy hm => by have := visits_bd l q x hx hy y hm; omega) ⟨h0, hn⟩
    rw [e1]
  | [], k, a, b, _, _ => by rw [visAg, MG] <;> simp
  | q :: r :: qs, k, a, b, _, _ => by rw [visAg, MG] <;> simp
end
theorem endsP_MR {p : Pat} {l : List Int} {a b : Int} : b ∈ endsP p l a ↔ 0 ≤ a ∧ a ≤ l.length ∧ MR (stp l) p a b := by
  unfold endsP
  by_cases h : a < 0 ∨ (l.length : Int) < a
  · rw [if_pos h]; simp; intro h1 h2; omega
  · rw [if_neg h, (List.mergeSort_perm _ _).mem_iff, mem_ddp, visits_MR l p a b (by omega) (by omega)]
    constructor
    · intro hm; exact ⟨by omega, by omega, hm⟩
    · exact fun hm => hm.2.2
theorem matP_MR {p : Pat} {l : List Int} {a b : Int} : matP p l a b = true ↔ 0 ≤ a ∧ a ≤ l.length ∧ MR (stp l) p a b := by
  unfold matP; rw [List.contains_iff_mem, endsP_MR]
/-! ### from one list to another -/
def Inc (S : List Int → Int → Int → Prop) : Prop := ∀ g a b, S g a b → a < b
theorem clo_le {r : Int → Int → Prop} (h : ∀ a b, r a b → a ≤ b) {a b : Int} (k : Clo r a b) : a ≤ b := by
  induction k with
  | one k => exact h _ _ k
  | more _ k ih => have := h _ _ k; omega
mutual
theorem MR_inc {S : List Int → Int → Int → Prop} (hS : Inc S) : ∀ (p : Pat) (a b : Int), MR S p a b → a ≤ b
  | .mk k s g ks, a, b, h => by
    rw [MR] at h
    split at h
    · omega
    · split at h
      · have := hS _ _ _ h; omega
      · split at h
        · exact MA_inc hS ks a b h
        · split at h
          · exact MO_inc hS ks a b h
          · split at h
            · exact MG_inc hS ks k a b h
            · exact h.elim
theorem MA_inc {S : List Int → Int → Int → Prop} (hS : Inc S) : ∀ (ks : List Pat) (a b : Int), MA S ks a b → a ≤ b
  | [], a, b, h => by rw [MA] at h; omega
  | q :: qs, a, b, h => by
    rw [MA] at h
    obtain ⟨m, h1, h2⟩ := h
    have := MR_inc hS q a m h1
    have := MA_inc hS qs m b h2
    omega
theorem MO_inc {S : List Int → Int → Int → Prop} (hS : Inc S) : ∀ (ks : List Pat) (a b : Int), MO S ks a b → a ≤ b
  | [], a, b, h => by rw [MO] at h; exact h.elim
  | q :: qs, a, b, h => by
    rw [MO] at h
    rcases h with h | h
    · exact MR_inc hS q a b h
    · exact MO_inc hS qs a b h
theorem MG_inc {S : List Int → Int → Int → Prop} (hS : Inc S) : ∀ (ks : List Pat) (k a b : Int), MG S ks k a b → a ≤ b
  | [q], k, a, b, h => by
    rw [MG] at h
    rcases h with h | h
    · omega
    · split at h
      · exact MR_inc hS q a b h
      · exact clo_le (fun a b h => MR_inc hS q a b h) h
  | [], k, a, b, h => by simp [MG] at h
  | q :: r :: qs, k, a, b, h => by simp [MG] at h
end
end Go.Rf


/- Own work: what a form matches hangs on what lies between; forms turned round. -/
set_option linter.unusedVariables false
set_option linter.unusedSimpArgs false
namespace Go.Rf
open Go.RowKit

theorem stp_inc (l : List Int) : Inc (stp l) := fun g a b h => by have := h.1; omega
/-! ### forms turned round -/
/-! ### the kinds -/
theorem mat_or (p q : Pat) (l : List Int) (i : Int) : matP (.mk 4 [] [] [p, q]) l 0 i = (matP p l 0 i || matP q l 0 i) := by
  rw [Bool.eq_iff_iff, Bool.or_eq_true, matP_MR, matP_MR, matP_MR, MR]
  simp [MO]
theorem mat_maybe (p : Pat) (l : List Int) (i : Int) : matP (.mk 7 [] [] [p]) l 0 i = (matP p l 0 i || decide (i = 0)) := by
  rw [Bool.eq_iff_iff, Bool.or_eq_true, matP_MR, matP_MR, MR]
  simp [MG]
  constructor
  · rintro (h | h)
    · exact .inr h.symm
    · exact .inl h
  · rintro (h | h)
    · exact .inr h
    · exact .inl h.symm
theorem mat_plus (p : Pat) (l : List Int) (i : Int) : matP (.mk 6 [] [] [p]) l 0 i = true ↔ Clo (MR (stp l) p) 0 i := by
  rw [matP_MR, MR]
  simp [MG]
theorem mat_star (p : Pat) (l : List Int) (i : Int) : matP (.mk 5 [] [] [p]) l 0 i = (decide (i = 0) || matP (.mk 6 [] [] [p]) l 0 i) := by
  rw [Bool.eq_iff_iff, Bool.or_eq_true, mat_plus, matP_MR, MR]
  simp [MG]
  constructor
  · rintro (h | h)
    · exact .inl h.symm
    · exact .inr h
  · rintro (h | h)
    · exact .inl h.symm
    · exact .inr h
theorem MR_star (p : Pat) (S : List Int → Int → Int → Prop) (a b : Int) : MR S (.mk 5 [] [] [p]) a b ↔ a = b ∨ Clo (MR S p) a b := by
  rw [MR]; simp [MG]
theorem mat_both (p : Pat) (l : List Int) (i : Int) : matP (.mk 6 [] [] [p]) l 0 i = matP (.mk 3 [] [] [p, .mk 5 [] [] [p]]) l 0 i := by
  rw [Bool.eq_iff_iff, mat_plus, matP_MR, MR]
  simp only [MA, MR_star]
  simp
  constructor
  · intro h
    obtain ⟨b, h1, h2⟩ := h.head
    exact ⟨b, h1, h2⟩
  · rintro ⟨m, h1, h2⟩
    rcases h2 with rfl | h2
    · exact .one h1
    · exact Clo.trans (.one h1) h2
def splitB (p q : Pat) (l : List Int) (i : Nat) (n : Nat) : Bool := (List.range n).any fun k : Nat => matP p l 0 k && matP q l k i
theorem mat_join (p q : Pat) (l : List Int) (i : Nat) (hi : i ≤ l.length) : matP (.mk 3 [] [] [p, q]) l 0 i = splitB p q l i (i + 1) := by
  rw [Bool.eq_iff_iff, matP_MR, MR]
  unfold splitB
  simp only [MA, List.any_eq_true, List.mem_range, Bool.and_eq_true, matP_MR]
  simp
  constructor
  · rintro ⟨m, h1, h2⟩
    have i1 := MR_inc (stp_inc l) p 0 m h1
    have i2 := MR_inc (stp_inc l) q m i h2
    refine ⟨m.toNat, by omega, ?_, ?_, ?_⟩
    · rw [Int.toNat_of_nonneg i1]; exact h1
    · omega
    · rw [Int.toNat_of_nonneg i1]; exact h2
  · rintro ⟨k, hk, h1, _, h2⟩
    exact ⟨k, h1, h2⟩
end Go.Rf

