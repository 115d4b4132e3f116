import Derived.Test.YtfmmdlockfbfmaaRfVec
import Derived.Test.YtfmmdlockfbfmaaRfCell
import Derived.Test.YtfmmdlockfbfmaaRfB16
/- Own work: forms, and up to where they match, in the order in which reach tells it. -/
set_option linter.unusedVariables false
set_option linter.unusedSimpArgs false
namespace Go.Rf
open Go.RowKit

inductive Pat where
  | mk (kind : Int) (set : List Rg) (signs : List Int) (kids : List Pat)
def Pat.kind : Pat → Int | .mk k _ _ _ => k
def Pat.set : Pat → List Rg | .mk _ s _ _ => s
def Pat.signs : Pat → List Int | .mk _ _ g _ => g
def Pat.kids : Pat → List Pat | .mk _ _ _ ks => ks
mutual
def encPat : Pat → AV
  | .mk k s g ks => .agg [encI k, encRs s, encIs g, .sl false (encPats ks)]
def encPats : List Pat → List AV
  | [] => []
  | p :: ps => encPat p :: encPats ps
end
theorem encPats_eq : ∀ (ks : List Pat), encPats ks = ks.map encPat
  | [] => by simp [encPats]
  | p :: ps => by simp [encPats, encPats_eq ps]
theorem encPat_eq (k : Int) (s : List Rg) (g : List Int) (ks : List Pat) : encPat (.mk k s g ks) = .agg [encI k, encRs s, encIs g, .sl false (ks.map encPat)] := by rw [encPat, encPats_eq]
theorem encPat_cells (p : Pat) : (encPat p).cells.length = 4 := by cases p; rw [encPat_eq]; rfl
mutual
theorem closed_Pat : ∀ (p : Pat), Closed (encPat p)
  | .mk k s g ks => by
    rw [encPat]
    refine .agg _ (fun y hy => ?_)
    simp only [List.mem_cons, List.not_mem_nil, or_false] at hy
    rcases hy with rfl | rfl | rfl | rfl
    · exact closed_I _
    · exact closed_Rs _
    · exact closed_Is _
    · exact .sl _ _ (closed_Pats ks)
theorem closed_Pats : ∀ (ks : List Pat), ∀ y ∈ encPats ks, Closed y
  | [], y, h => by simp [encPats] at h
  | p :: ps, y, h => by
    simp only [encPats, List.mem_cons] at h
    rcases h with rfl | h
    · exact closed_Pat p
    · exact closed_Pats ps y h
end
/-- Some more are added, each once. -/
def addA (acc : List Int) : List Int → List Int
  | [] => acc
  | x :: xs => addA (if acc.contains x = true then acc else acc ++ [x]) xs
def ddp (l : List Int) : List Int := addA [] l
theorem addA_append : ∀ (xs ys acc : List Int), addA acc (xs ++ ys) = addA (addA acc xs) ys
  | [], ys, acc => rfl
  | x :: xs, ys, acc => by simp only [List.cons_append, addA]; exact addA_append xs ys _
theorem addA_one (acc : List Int) (x : Int) : addA acc [x] = if acc.contains x = true then acc else acc ++ [x] := by simp only [addA]
theorem mem_addA : ∀ {xs acc : List Int} {y : Int}, y ∈ addA acc xs ↔ y ∈ acc ∨ y ∈ xs
  | [], acc, y => by simp [addA]
  | x :: xs, acc, y => by
    simp only [addA]
    rw [mem_addA]
    by_cases h : acc.contains x = true
    · rw [if_pos h]
      have h' : x ∈ acc := by simpa using h
      constructor
      · rintro (h1 | h1)
        · exact .inl h1
        · exact .inr (by simp [h1])
      · rintro (h1 | h1)
        · exact .inl h1
        · rcases List.mem_cons.mp h1 with rfl | h1
          · exact .inl h'
          · exact .inr h1
    · rw [if_neg h]
      simp only [List.mem_append, List.mem_cons, List.not_mem_nil, or_false]
      constructor
      · rintro ((h1 | h1) | h1)
        · exact .inl h1
        · exact .inr (.inl h1)
        · exact .inr (.inr h1)
      · rintro (h1 | h1 | h1)
        · exact .inl (.inl h1)
        · exact .inl (.inr h1)
        · exact .inr h1
theorem addA_nodup : ∀ {xs acc : List Int}, acc.Nodup → (addA acc xs).Nodup
  | [], acc, h => h
  | x :: xs, acc, h => by
    simp only [addA]
    refine addA_nodup ?_
    by_cases hc : acc.contains x = true
    · rw [if_pos hc]; exact h
    · rw [if_neg hc]
      have h' : x ∉ acc := by simpa using hc
      rw [List.nodup_append]
      exact ⟨h, by simp, fun a ha b hb => by simp at hb; subst hb; intro e; subst e; exact h' ha⟩
theorem mem_ddp {xs : List Int} {y : Int} : y ∈ ddp xs ↔ y ∈ xs := by unfold ddp; rw [mem_addA]; simp
theorem ddp_nodup (xs : List Int) : (ddp xs).Nodup := addA_nodup (by simp)
/-- Places of a list, each once, are few. -/
theorem nodup_len : ∀ (n : Nat) {l : List Int}, l.Nodup → (∀ x ∈ l, 0 ≤ x ∧ x < (n : Int)) → l.length ≤ n
  | 0, l, _, h => by
    cases l with
    | nil => simp
    | cons x l => have := h x (by simp); omega
  | n + 1, l, hd, h => by
    have h1 : (l.filter (fun x => x != (n : Int))).length ≤ n := nodup_len n (hd.filter _) (fun x hx => by
      have hm := List.mem_filter.mp hx
      have := h x hm.1
      have hne : x ≠ (n : Int) := by simpa using hm.2
      omega)
    have h2 : (l.filter (fun x => x == (n : Int))).length ≤ 1 := by
      have hd2 := hd.filter (fun x => x == (n : Int))
      have hall : ∀ x ∈ l.filter (fun x => x == (n : Int)), x = (n : Int) := fun x hx => by simpa using (List.mem_filter.mp hx).2
      generalize l.filter (fun x => x == (n : Int)) = m at *
      match m, hd2, hall with
      | [], _, _ => simp
      | [_], _, _ => simp
      | a :: b :: m, hd2, hall =>
        exfalso
        have := (List.nodup_cons.mp hd2).1
        rw [hall a (by simp)] at this
        rw [hall b (by simp)] at this
        simp at this
    have h3 : l.length = (l.filter (fun x => x == (n : Int))).length + (l.filter (fun x => x != (n : Int))).length := by
      have := List.length_eq_countP_add_countP (p := fun x : Int => x == (n : Int)) (l := l)
      rw [List.countP_eq_length_filter, List.countP_eq_length_filter] at this
      rw [this]
      congr 2
      exact List.filter_congr (fun x _ => by rw [bne]; cases (x == (n : Int)) <;> rfl)
    omega
/-- What is come to, again and again. -/
def cloL (v : Int → List Int) : Nat → List Int → Nat → List Int
  | 0, met, _ => met
  | f + 1, met, i => if h : i < met.length then cloL v f (addA met (v met[i])) (i + 1) else met
def agn (v : Int → List Int) (k : Int) (n : Nat) (at_ : Int) : List Int := (if k = 6 then [] else [at_]) ++ (if k = 7 then ddp (v at_) else cloL v (n + 2) (ddp (v at_)) 0)
mutual
def visits (l : List Int) : Pat → Int → List Int
  | .mk k s g ks, at_ => if k = 1 then [at_] else if k = 2 then (if at_ < l.length ∧ g.contains (l.getD at_.toNat 0) = true then [at_ + 1] else []) else if k = 3 then visAll l ks [at_] else if k = 4 then visOr l ks at_
      else if k = 7 ∨ k = 5 ∨ k = 6 then visAg l ks k at_ else []
def visAll (l : List Int) : List Pat → List Int → List Int
  | [], cur => cur
  | q :: qs, cur => visAll l qs (ddp (cur.flatMap fun a => visits l q a))
def visOr (l : List Int) : List Pat → Int → List Int
  | [], _ => []
  | q :: qs, at_ => visits l q at_ ++ visOr l qs at_
def visAg (l : List Int) : List Pat → Int → Int → List Int
  | [q], k, at_ => agn (fun a => visits l q a) k l.length at_
  | _, _, _ => []
end
theorem cloL_bd {v : Int → List Int} {a b : Int} (hv : ∀ x, a ≤ x → x ≤ b → ∀ y ∈ v x, a ≤ y ∧ y ≤ b) : ∀ (f : Nat) (met : List Int) (i : Nat), (∀ x ∈ met, a ≤ x ∧ x ≤ b) → ∀ x ∈ cloL v f met i, a ≤ x ∧ x ≤ b
  | 0, met, i, h, x, hx => h x hx
  | f + 1, met, i, h, x, hx => by
    simp only [cloL] at hx
    split at hx
    · rename_i hlt
      refine cloL_bd hv f _ _ (fun y hy => ?_) x hx
      rcases mem_addA.mp hy with hy | hy
      · exact h y hy
      · have hm := h _ (List.getElem_mem hlt)
        exact hv _ hm.1 hm.2 y hy
    · exact h x hx
theorem agn_bd {v : Int → List Int} {b : Int} {k : Int} {n : Nat} {at_ : Int} (hab : at_ ≤ b) (hv : ∀ x, at_ ≤ x → x ≤ b → ∀ y ∈ v x, at_ ≤ y ∧ y ≤ b) : ∀ x ∈ agn v k n at_, at_ ≤ x ∧ x ≤ b := by
  intro x hx
  have h0 : ∀ y ∈ ddp (v at_), at_ ≤ y ∧ y ≤ b := fun y hy => hv at_ (Int.le_refl _) hab y (mem_ddp.mp hy)
  unfold agn at hx
  rcases List.mem_append.mp hx with hx | hx
  · split at hx
    · simp at hx
    · simp at hx; subst hx; exact ⟨Int.le_refl _, hab⟩
  · split at hx
    · exact h0 x hx
    · exact cloL_bd hv _ _ _ h0 x hx
mutual
theorem visits_bd (l : List Int) : ∀ (p : Pat) (at_ : Int), 0 ≤ at_ → at_ ≤ l.length → ∀ x ∈ visits l p at_, at_ ≤ x ∧ x ≤ l.length
  | .mk k s g ks, at_, h0, hn, x, hx => by
    rw [visits] at hx
    split at hx
    · simp at hx; subst hx; exact ⟨Int.le_refl _, hn⟩
    · split at hx
      · split at hx
        · rename_i hc; simp at hx; subst hx; omega
        · simp at hx
      · split at hx
        · exact visAll_bd l ks [at_] at_ h0 (fun y hy => by simp at hy; subst hy; exact ⟨Int.le_refl _, hn⟩) x hx
        · split at hx
          · exact visOr_bd l ks at_ h0 hn x hx
          · split at hx
            · exact visAg_bd l ks k at_ h0 hn x hx
            · simp at hx
theorem visAll_bd (l : List Int) : ∀ (ks : List Pat) (cur : List Int) (a : Int), 0 ≤ a → (∀ x ∈ cur, a ≤ x ∧ x ≤ l.length) → ∀ x ∈ visAll l ks cur, a ≤ x ∧ x ≤ l.length
  | [], cur, a, h0, h, x, hx => by rw [visAll] at hx; exact h x hx
  | q :: qs, cur, a, h0, h, x, hx => by
    rw [visAll] at hx
    refine visAll_bd l qs _ a h0 (fun y hy => ?_) x hx
    obtain ⟨c, hc, hy⟩ := List.mem_flatMap.mp (mem_ddp.mp hy)
    have h1 := h c hc
    have h2 := visits_bd l q c (by omega) h1.2 y hy
    omega
theorem visOr_bd (l : List Int) : ∀ (ks : List Pat) (at_ : Int), 0 ≤ at_ → at_ ≤ l.length → ∀ x ∈ visOr l ks at_, at_ ≤ x ∧ x ≤ l.length
  | [], at_, h0, hn, x, hx => by rw [visOr] at hx; simp at hx
  | q :: qs, at_, h0, hn, x, hx => by
    rw [visOr] at hx
    rcases List.mem_append.mp hx with hx | hx
    · exact visits_bd l q at_ h0 hn x hx
    · exact visOr_bd l qs at_ h0 hn x hx
theorem visAg_bd (l : List Int) : ∀ (ks : List Pat) (k at_ : Int), 0 ≤ at_ → at_ ≤ l.length → ∀ x ∈ visAg l ks k at_, at_ ≤ x ∧ x ≤ l.length
  | [q], k, at_, h0, hn, x, hx => by
    rw [visAg] at hx
    exact agn_bd hn (fun y h1 h2 z hz => by have := visits_bd l q y (by omega) h2 z hz; omega) x hx
  | [], k, at_, h0, hn, x, hx => by simp [visAg] at hx
  | q :: r :: qs, k, at_, h0, hn, x, hx => by simp [visAg] at hx
end

/-! ### those that are told, and those that tell -/
structure Ext (A A' : List Nat) (S S' : St) : Prop where
  nw : ∀ i ∈ A', i ∈ A ∨ S.n ≤ i
  fr : ∀ i, i < S.n → i ∉ A → S'.g i = S.g i
  nn : S.n ≤ S'.n
theorem Ext.refl (A : List Nat) (S : St) : Ext A A S S := ⟨fun i h => .inl h, fun _ _ _ => rfl, Nat.le_refl _⟩
theorem Ext.trans {A A1 A2 : List Nat} {S S1 S2 : St} (h : Ext A A1 S S1) (k : Ext A1 A2 S1 S2) : Ext A A2 S S2 := by
  refine ⟨fun i hi => ?_, fun i hi ha => ?_, Nat.le_trans h.nn k.nn⟩
  · rcases k.nw i hi with h1 | h1
    · exact h.nw i h1
    · exact .inr (Nat.le_trans h.nn h1)
  · rw [k.fr i (Nat.lt_of_lt_of_le hi h.nn) (fun h1 => ?_), h.fr i hi ha]
    rcases h.nw i h1 with h2 | h2
    · exact ha h2
    · omega
/-- One that is told numbers, and keeps account of them in blocks of its own. -/
structure Tlr (P : Program) (n : Nat) (tv : AV) (J : List Int → List Nat → St → Prop) : Prop where
  keep : ∀ {L A} {S S' : St}, J L A S → (∀ i ∈ A, S'.g i = S.g i) → S.n ≤ S'.n → J L A S'
  lt : ∀ {L A S}, J L A S → ∀ i ∈ A, i < S.n
  call : ∃ f first cap, tv = .clo f first cap ∧ ∀ L A S (j : Int) (K : AV → St → Prop), 0 ≤ j → j ≤ n → J L A S → (∀ S' A', J (L ++ [j]) A' S' → Ext A A' S S' → K (.tup []) S') → CallR P f (first ++ encI j :: cap) S K
def encW (l : List Int) : AV := .agg [encIs l]
def FromOk (P : Program) (ff : FuncId) (l : List Int) (p : Pat) : Prop := ∀ (at_ : Int) (tv : AV) (J : List Int → List Nat → St → Prop) (L : List Int) (A : List Nat) (S : St) (K : AV → St → Prop), 0 ≤ at_ → at_ ≤ l.length → Tlr P l.length tv J → J L A S →
  (∀ S' A', J (L ++ visits l p at_) A' S' → Ext A A' S S' → K (.tup []) S') → CallR P ff [encW l, encPat p, encI at_, tv] S K
/-- A deed that tells vs, from what S holds. -/
def Deed (P : Program) (n : Nat) (dv : AV) (S : St) (vs : List Int) : Prop := ∃ f first cap, dv = .clo f first cap ∧ ∀ (S1 : St), S.n ≤ S1.n → (∀ i, i < S.n → S1.g i = S.g i) → ∀ (tv : AV) (J : List Int → List Nat → St → Prop) (L : List Int) (A : List Nat) (K : AV → St → Prop),
  Tlr P n tv J → J L A S1 → (∀ i ∈ A, S.n ≤ i) → (∀ S' A', J (L ++ vs) A' S' → Ext A A' S1 S' → K (.tup []) S') → CallR P f (first ++ tv :: cap) S1 K
end Go.Rf

