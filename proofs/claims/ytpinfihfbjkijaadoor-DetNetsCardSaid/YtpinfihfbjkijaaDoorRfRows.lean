import Derived.Test.YtpinfihfbjkijaaDoorRfCell
/- Own work: several lists of one's own, of whatever elements, apart from one another. -/
set_option linter.unusedVariables false
set_option linter.unusedSimpArgs false
namespace Go.Rf
open Go.RowKit
structure ARows (g : Nat → Option Blk) (n : Nat) (av : List Nat) (vs : List AV) (ls : List (List AV)) : Prop where
  len : vs.length = ls.length
  row : ∀ t (h : t < vs.length) (h' : t < ls.length), Vec g vs[t] 1 (ls[t])
  sep : vs.Pairwise (fun a b => ∀ i ∈ a.ids, i ∉ b.ids)
  out : ∀ v ∈ vs, ∀ i ∈ v.ids, i < n ∧ i ∉ av
theorem ARows.nil {g : Nat → Option Blk} {n : Nat} {av : List Nat} : ARows g n av [] [] := ⟨rfl, fun t h => by simp at h, .nil, by simp⟩
theorem ARows.cons {g : Nat → Option Blk} {n : Nat} {av : List Nat} {vs : List AV} {ls : List (List AV)} {v : AV} {l : List AV} (hv : Vec g v 1 l) (ho : ∀ i ∈ v.ids, i < n ∧ i ∉ av) (hs : ∀ w ∈ vs, ∀ i ∈ v.ids, i ∉ w.ids) (h : ARows g n av vs ls) :
    ARows g n av (v :: vs) (l :: ls) := by
  refine ⟨by simp [h.len], fun t h1 h2 => ?_, List.pairwise_cons.mpr ⟨hs, h.sep⟩, fun w hw => ?_⟩
  · cases t with
    | zero => exact hv
    | succ t => exact h.row t (by simpa using h1) (by simpa using h2)
  · rcases List.mem_cons.mp hw with rfl | hw
    · exact ho
    · exact h.out w hw
theorem ARows.head {g : Nat → Option Blk} {n : Nat} {av : List Nat} {vs : List AV} {ls : List (List AV)} {v : AV} {l : List AV} (h : ARows g n av (v :: vs) (l :: ls)) :
    Vec g v 1 l ∧ (∀ i ∈ v.ids, i < n ∧ i ∉ av) ∧ (∀ w ∈ vs, ∀ i ∈ v.ids, i ∉ w.ids) ∧ ARows g n av vs ls := by
  have hp := List.pairwise_cons.mp h.sep
  refine ⟨h.row 0 (by simp) (by simp), h.out v (by simp), hp.1, by have := h.len; simpa using this, fun t h1 h2 => ?_, hp.2, fun w hw => h.out w (by simp [hw])⟩
  exact h.row (t + 1) (by simpa using h1) (by simpa using h2)
theorem ARows.frame {g g' : Nat → Option Blk} {n n' : Nat} {av : List Nat} {vs : List AV} {ls : List (List AV)} (h : ARows g n av vs ls) (hn : n ≤ n') (hg : ∀ v ∈ vs, ∀ i ∈ v.ids, g' i = g i) : ARows g' n' av vs ls :=
  ⟨h.len, fun t h1 h2 => (h.row t h1 h2).frame (fun i hi => hg _ (List.getElem_mem h1) i hi), h.sep, fun v hv i hi => ⟨Nat.lt_of_lt_of_le (h.out v hv i hi).1 hn, (h.out v hv i hi).2⟩⟩
theorem ARows.snoc {g : Nat → Option Blk} {n : Nat} {av : List Nat} {vs : List AV} {ls : List (List AV)} {v : AV} {l : List AV} (h : ARows g n av vs ls) (hv : Vec g v 1 l) (ho : ∀ i ∈ v.ids, i < n ∧ i ∉ av) (hs : ∀ w ∈ vs, ∀ i ∈ w.ids, i ∉ v.ids) :
    ARows g n av (vs ++ [v]) (ls ++ [l]) := by
  refine ⟨by simp [h.len], fun t h1 h2 => ?_, ?_, fun w hw => ?_⟩
  · by_cases ht : t < vs.length
    · have ht2 : t < ls.length := by rw [← h.len]; exact ht
      rw [List.getElem_append_left ht, List.getElem_append_left ht2]; exact h.row t ht ht2
    · have e : t = vs.length := by simp at h1; omega
      have e2 : t = ls.length := by rw [← h.len]; exact e
      rw [List.getElem_append_right (by omega), List.getElem_append_right (by omega)]
      simp [e, ← h.len]; exact hv
  · rw [List.pairwise_append]
    exact ⟨h.sep, by simp, fun a ha b hb => by simp at hb; subst hb; exact hs a ha⟩
  · rcases List.mem_append.mp hw with hw | hw
    · exact h.out w hw
    · simp at hw; subst hw; exact ho
/-- A list that grows, with what it looked at and wrote. -/
theorem Vec.appT {g : Nat → Option Blk} {n : Nat} {v : AV} {es : Nat} {xs : List AV} {nid : Nat} {x : AV} {by_ : Nat} (h : Vec g v es xs) (hes : ∀ z ∈ xs, z.cells.length = es) (hx : x.cells.length = es) (hok : appOk by_ xs.length 1) :
    (exApp es by_ v (.sl true [x])).runT ⟨n, g⟩ nid = some (.own nid 0 (xs.length + 1), (St.without ⟨n, g⟩ v).set nid (some (.arr es (xs ++ [x]))), v.ids, v.ids ++ [nid]) := by
  rcases h with ⟨rfl, rfl⟩ | ⟨id, off, ys, rfl, h1, h2, h3⟩
  · simp only [List.length_nil] at hok
    simp [exApp, Eff.runT, AV.oid, lstE, hx, hok, St.without, St.setL, St.setO, AV.ids]
  · have hl : off + xs.length = ys.length := by rw [← h3]; simp; omega
    simp [exApp, Eff.runT, AV.oid, lstE, hx, hok, St.without, St.setL, St.setO, h1, hl, h3, AV.ids]
theorem Vec.fzL {g : Nat → Option Blk} {v : AV} {es : Nat} {xs zs : List AV} (h : Vec g v es xs) (hl : zs.length = xs.length) (hz : ∀ i (h1 : i < xs.length) (h2 : i < zs.length), Fz g (xs[i]) (zs[i])) : Fz g v (.sl false zs) := by
  rcases h with ⟨rfl, h0⟩ | ⟨id, off, ys, rfl, h1, h2, h3⟩
  · subst h0
    have : zs = [] := List.eq_nil_of_length_eq_zero hl
    subst this; exact .loose true [] (.sl _ _ (by simp))
  · have hle : off + xs.length = ys.length := by rw [← h3]; simp; omega
    have ht : (ys.drop off).take xs.length = xs := by rw [h3, List.take_length]
    refine .own id off _ es ys zs h1 (by omega) hl (fun i k1 k2 => ?_)
    simp only [ht] at k1 ⊢
    exact hz i k1 k2
end Go.Rf

