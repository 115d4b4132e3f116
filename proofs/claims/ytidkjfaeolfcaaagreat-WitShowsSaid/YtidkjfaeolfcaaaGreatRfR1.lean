import Derived.Test.YtidkjfaeolfcaaaGreatRfCell
import Derived.Test.YtidkjfaeolfcaaaGreatRfB16
/- Own work: forms, and up to where they match, in the order in which reach tells it. -/
set_option linter.unusedVariables false
set_option linter.unusedSimpArgs false
namespace Go.Rf
open Go.RowKit

inductive Pat where
  | mk (kind : Int) (set : List Rg) (signs : List Int) (kids : List Pat)
def Pat.kind : Pat → Int | .mk k _ _ _ => k
def Pat.set : Pat → List Rg | .mk _ s _ _ => s
def Pat.signs : Pat → List Int | .mk _ _ g _ => g
def Pat.kids : Pat → List Pat | .mk _ _ _ ks => ks
mutual
def encPat : Pat → AV
  | .mk k s g ks => .agg [encI k, encRs s, encIs g, .sl false (encPats ks)]
def encPats : List Pat → List AV
  | [] => []
  | p :: ps => encPat p :: encPats ps
end
theorem encPats_eq : ∀ (ks : List Pat), encPats ks = ks.map encPat
  | [] => by simp [encPats]
  | p :: ps => by simp [encPats, encPats_eq ps]
theorem encPat_eq (k : Int) (s : List Rg) (g : List Int) (ks : List Pat) : encPat (.mk k s g ks) = .agg [encI k, encRs s, encIs g, .sl false (ks.map encPat)] := by rw [encPat, encPats_eq]
mutual
theorem closed_Pat : ∀ (p : Pat), Closed (encPat p)
  | .mk k s g ks => by
    rw [encPat]
    refine .agg _ (fun y hy => ?_)
    simp only [List.mem_cons, List.not_mem_nil, or_false] at hy
    rcases hy with rfl | rfl | rfl | rfl
    · exact Z2r _
    · exact closed_Rs _
    · exact Z2s _
    · exact .sl _ _ (closed_Pats ks)
theorem closed_Pats : ∀ (ks : List Pat), ∀ y ∈ encPats ks, Closed y
  | [], y, h => by simp [encPats] at h
  | p :: ps, y, h => by
    simp only [encPats, List.mem_cons] at h
    rcases h with rfl | h
    · exact closed_Pat p
    · exact closed_Pats ps y h
end

/-! ### those that are told, and those that tell -/
structure Ext (A A' : List Nat) (S S' : St) : Prop where
  nw : ∀ i ∈ A', i ∈ A ∨ S.n ≤ i
  fr : ∀ i, i < S.n → i ∉ A → S'.g i = S.g i
  nn : S.n ≤ S'.n
theorem Ext.refl (A : List Nat) (S : St) : Ext A A S S := ⟨fun i h => .inl h, fun _ _ _ => rfl, Nat.le_refl _⟩
theorem Ext.trans {A A1 A2 : List Nat} {S S1 S2 : St} (h : Ext A A1 S S1) (k : Ext A1 A2 S1 S2) : Ext A A2 S S2 := by
  refine ⟨fun i hi => ?_, fun i hi ha => ?_, Nat.le_trans h.nn k.nn⟩
  · rcases k.nw i hi with h1 | h1
    · exact h.nw i h1
    · exact .inr (Nat.le_trans h.nn h1)
  · rw [k.fr i (Nat.lt_of_lt_of_le hi h.nn) (fun h1 => ?_), h.fr i hi ha]
    rcases h.nw i h1 with h2 | h2
    · exact ha h2
    · omega
/-- One that is told numbers, and keeps account of them in blocks of its own. -/
structure Tlr (P : Program) (n : Nat) (tv : AV) (J : List Int → List Nat → St → Prop) : Prop where
  keep : ∀ {L A} {S S' : St}, J L A S → (∀ i ∈ A, S'.g i = S.g i) → S.n ≤ S'.n → J L A S'
  lt : ∀ {L A S}, J L A S → ∀ i ∈ A, i < S.n
  call : ∃ f first cap, tv = .clo f first cap ∧ ∀ L A S (j : Int) (K : AV → St → Prop), 0 ≤ j → j ≤ n → J L A S → (∀ S' A', J (L ++ [j]) A' S' → Ext A A' S S' → K (.tup []) S') → CallR P f (first ++ encI j :: cap) S K
def encW (l : List Int) : AV := .agg [encIs l]
end Go.Rf

