import Derived.Test.YtajombmjidnbcaaDoorRfQ2
/- Own work: pairs of states told apart, as the document does it (plain law). -/
set_option linter.unusedVariables false
namespace Go.Rf
open Go.RowKit
theorem countP_lt {X : Type} {p q : X → Bool} : ∀ (l : List X), (∀ x, p x = true → q x = true) → (∃ x ∈ l, q x = true ∧ p x = false) → l.countP p < l.countP q
  | [], _, h => by obtain ⟨x, hx, _⟩ := h; simp at hx
  | y :: l, h1, h2 => by
    have hle : l.countP p ≤ l.countP q := List.countP_mono_left fun x _ => h1 x
    rw [List.countP_cons, List.countP_cons]
    obtain ⟨x, hx, hq, hp⟩ := h2
    rcases List.mem_cons.mp hx with rfl | hx
    · rw [hq, hp]; simp; omega
    · have := countP_lt l h1 ⟨x, hx, hq, hp⟩
      cases hpy : p y with
      | true => rw [h1 y hpy]; simp; omega
      | false => cases q y <;> simp <;> omega
abbrev Mx := Nat → Nat → Bool
def fcnt (n : Nat) (M : Mx) : Nat := (List.range (n * n)).countP fun p => !M (p / n) (p % n)
def upd2 (M : Mx) (i k : Nat) : Mx := fun a b => if (a = i ∧ b = k) ∨ (a = k ∧ b = i) then true else M a b
theorem fcnt_lt {n : Nat} {M : Mx} {i k : Nat} (hi : i < n) (hk : k < n) (h : M i k = false) : fcnt n (upd2 M i k) < fcnt n M := by
  refine countP_lt _ (fun x hx => ?_) ⟨i * n + k, ?_, ?_, ?_⟩
  · simp only [upd2, Bool.not_eq_true'] at hx ⊢
    split at hx
    · cases hx
    · exact hx
  · rw [List.mem_range]
    have : (i + 1) * n ≤ n * n := Nat.mul_le_mul_right n hi
    rw [Nat.add_mul] at this; omega
  · have h1 : (i * n + k) / n = i := by rw [Nat.mul_comm, Nat.mul_add_div (by omega), Nat.div_eq_of_lt hk, Nat.add_zero]
    have h2 : (i * n + k) % n = k := by rw [Nat.mul_comm, Nat.mul_add_mod, Nat.mod_eq_of_lt hk]
    rw [h1, h2, h]; rfl
  · have h1 : (i * n + k) / n = i := by rw [Nat.mul_comm, Nat.mul_add_div (by omega), Nat.div_eq_of_lt hk, Nat.add_zero]
    have h2 : (i * n + k) % n = k := by rw [Nat.mul_comm, Nat.mul_add_mod, Nat.mod_eq_of_lt hk]
    rw [h1, h2]; simp [upd2]
structure MOk (d : Det) (M : Mx) : Prop where
  sym : ∀ i k, M i k = M k i
  irr : ∀ i, M i i = false
  snd : ∀ i k, i < d.next.length → k < d.next.length → M i k = true → ¬ Eqv d i k
  base : ∀ i k, finB d i ≠ finB d k → M i k = true
def Clp (d : Det) (M : Mx) (i k : Nat) : Prop := M i k = false → ∀ s : Nat, (s : Int) < d.signs → M (stepD d i s) (stepD d k s) = false
def neM (d : Det) : Mx := fun i k => decide (finB d i ≠ finB d k)
theorem neM_ok (d : Det) : MOk d (neM d) := by
  refine ⟨fun i k => ?_, fun i => by simp [neM], fun i k _ _ h he => ?_, fun i k h => by simp [neM, h]⟩
  · simp only [neM]; congr 1; exact propext ⟨fun h e => h e.symm, fun h e => h e.symm⟩
  · have := he [] (fun s hs => by simp at hs)
    simp only [runT, List.foldl_nil] at this
    simp [neM, this] at h
theorem MOk.upd {d : Det} {M : Mx} (h : MOk d M) {i k : Nat} (hik : i ≠ k) {s : Nat} (hs : (s : Int) < d.signs) (hv : i < d.next.length → k < d.next.length → M (stepD d i s) (stepD d k s) = true ∧ stepD d i s < d.next.length ∧ stepD d k s < d.next.length) : MOk d (upd2 M i k) := by
  refine ⟨fun a b => ?_, fun a => ?_, fun a b ha hb hm he => ?_, fun a b hne => ?_⟩
  · simp only [upd2, h.sym a b]
    congr 1
    exact propext ⟨fun h => h.elim (fun h => .inr ⟨h.2, h.1⟩) (fun h => .inl ⟨h.2, h.1⟩), fun h => h.elim (fun h => .inr ⟨h.2, h.1⟩) (fun h => .inl ⟨h.2, h.1⟩)⟩
  · have : ¬ ((a = i ∧ a = k) ∨ (a = k ∧ a = i)) := by omega
    simp only [upd2, if_neg this, h.irr]
  · simp only [upd2] at hm
    split at hm
    · rename_i hc
      have he' : Eqv d i k := by
        rcases hc with ⟨rfl, rfl⟩ | ⟨rfl, rfl⟩
        · exact he
        · exact he.symm
      have hik2 : i < d.next.length ∧ k < d.next.length := by omega
      obtain ⟨h1, h2, h3⟩ := hv hik2.1 hik2.2
      exact h.snd _ _ h2 h3 h1 (eqv_step he' (Int.natCast_nonneg s) hs)
    · exact h.snd a b ha hb hm he
  · simp only [upd2]
    split
    · rfl
    · exact h.base a b hne
theorem clp_eqv {d : Det} {M : Mx} (R : RightD d) (h : MOk d M) (hc : ∀ i k, i < d.next.length → k < i → Clp d M i k) : ∀ (l : List Int) (i k : Nat), i < d.next.length → k < d.next.length → Vl d l → M i k = false → finB d (runT d i l) = finB d (runT d k l)
  | [], i, k, hi, hk, _, hm => by
    simp only [runT, List.foldl_nil]
    cases hd : decide (finB d i = finB d k) with
    | true => exact of_decide_eq_true hd
    | false => rw [h.base i k (of_decide_eq_false hd)] at hm; cases hm
  | s :: l, i, k, hi, hk, hv, hm => by
    have hs := hv s (by simp)
    have hv2 : Vl d l := fun x hx => hv x (by simp [hx])
    have e : ∀ q, runT d q (s :: l) = runT d (stepD d q s) l := fun q => rfl
    rw [e, e]
    have hsn : ((s.toNat : Nat) : Int) = s := by omega
    refine clp_eqv R h hc l _ _ (step_lt R hi hs.1 hs.2) (step_lt R hk hs.1 hs.2) hv2 ?_
    rcases Nat.lt_trichotomy k i with hki | hki | hki
    · have := hc i k hi hki hm s.toNat (by omega)
      rwa [hsn] at this
    · subst hki; exact h.irr _
    · have := hc k i hk hki (by rw [h.sym]; exact hm) s.toNat (by omega)
      rw [hsn] at this
      rw [h.sym]; exact this
theorem clp_cls {d : Det} {M : Mx} (R : RightD d) (h : MOk d M) (hc : ∀ i k, i < d.next.length → k < i → Clp d M i k) {c : List Int} (C : ClsD d c) {i k : Nat} (hi : i < d.next.length) (hk : k < d.next.length) : M i k = decide (c.getD i 0 ≠ c.getD k 0) := by
  cases hm : M i k with
  | true =>
    have := h.snd i k hi hk hm
    exact (decide_eq_true (p := c.getD i 0 ≠ c.getD k 0) fun e => this ((C.eq i k hi hk).mp e)).symm
  | false =>
    have : Eqv d i k := fun l hv => clp_eqv R h hc l i k hi hk hv hm
    have := (C.eq i k hi hk).mpr this
    exact (decide_eq_false (p := c.getD i 0 ≠ c.getD k 0) fun hn => hn this).symm
end Go.Rf

