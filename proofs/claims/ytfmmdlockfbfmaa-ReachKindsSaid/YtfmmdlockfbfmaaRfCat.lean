import Derived.Test.YtfmmdlockfbfmaaRfN1
/- Own work: slices.Grow from nothing, slices.Concat, at lists of whatever elements. -/
set_option linter.unusedVariables false
set_option linter.unusedSimpArgs false
namespace Go.Rf
open Go.RowKit

/-- As Vec; the block may go on behind the list. -/
def VecP (g : Nat → Option Blk) (v : AV) (es : Nat) (xs : List AV) : Prop :=
  (v = .sl true [] ∧ xs = []) ∨ ∃ id off ys, v = .own id off xs.length ∧ g id = some (.arr es ys) ∧ off + xs.length ≤ ys.length ∧ (ys.take (off + xs.length)).drop off = xs
theorem VecP.frame {g g' : Nat → Option Blk} {v : AV} {es : Nat} {xs : List AV} (h : VecP g v es xs) (hs : ∀ i ∈ v.ids, g' i = g i) : VecP g' v es xs := by
  rcases h with h | ⟨id, off, ys, rfl, h1, h2, h3⟩
  · exact .inl h
  · exact .inr ⟨id, off, ys, rfl, by rw [hs id (by simp [AV.ids])]; exact h1, h2, h3⟩
theorem VecP.fz {X : Type} {enc : X → AV} {g : Nat → Option Blk} {v : AV} {es : Nat} {l : List X} (h : VecP g v es (l.map enc)) (hc : ∀ x, Closed (enc x)) : Fz g v (.sl false (l.map enc)) := by
  rcases h with ⟨rfl, hn⟩ | ⟨id, off, ys, rfl, h1, h2, h3⟩
  · rw [hn]; exact .loose true [] (.sl _ _ (by simp))
  · rw [List.length_map] at h2 h3 ⊢
    refine .own id off l.length es ys (l.map enc) h1 h2 (by simp) (fun i a b => ?_)
    have e : (ys.drop off).take l.length = l.map enc := by rw [← h3, List.drop_take]; congr 1; omega
    simp only [e]
    exact .closed _ (by simp only [List.getElem_map]; exact hc _)
/-- A list is put behind. -/
theorem VecP.app {n nid by_ es : Nat} {g : Nat → Option Blk} {v : AV} {xs : List AV} (h : VecP g v es xs) (t : Bool) (ys : List AV) (hx : ∀ z ∈ xs, z.cells.length = es) (hy : ∀ z ∈ ys, z.cells.length = es) (hok : appOk by_ xs.length ys.length) :
    ∃ v' S', (exApp es by_ v (.sl t ys)).run ⟨n, g⟩ nid = some (v', S') ∧ S'.n = n ∧ (nid ∉ v.ids → VecP S'.g v' es (xs ++ ys)) ∧ (∀ i, i ∉ v.ids → i ≠ nid → S'.g i = g i) ∧ (∀ i ∈ v'.ids, i ∈ v.ids ∨ i = nid) := by
  have hl : lstE es [] (.sl t ys) = some ys := by simp only [lstE]; rw [if_pos hy]
  rcases h with ⟨rfl, rfl⟩ | ⟨id, off, zs, rfl, h1, h2, h3⟩
  · simp only [List.length_nil] at hok
    by_cases h0 : ys.length = 0
    · have : ys = [] := List.eq_nil_of_length_eq_zero h0
      subst this
      refine ⟨.sl true [], ⟨n, g⟩, ?_, rfl, fun _ => .inl ⟨rfl, rfl⟩, fun _ _ _ => rfl, by simp [AV.ids]⟩
      simp [exApp, AV.oid, Eff.run, hl, St.setL, St.setO, appOk]
    · refine ⟨.own nid 0 ys.length, (⟨n, g⟩ : St).set nid (some (.arr es ys)), ?_, by simp [set_n], fun _ => .inr ⟨nid, 0, ys, by simp, by simp [set_g], by simp, by simp⟩, fun i _ hi => by simp [set_g, hi], by simp [AV.ids]⟩
      simp only [exApp, AV.oid, Eff.run, List.mapM_nil, Option.pure_def, hl, Option.bind_some, List.length_nil, Nat.zero_add, hok, and_true]
      rw [if_pos (by simp), if_neg h0]
      simp [St.setL, St.setO]
  · refine ⟨.own nid 0 (xs.length + ys.length), ((⟨n, g⟩ : St).set id none).set nid (some (.arr es (xs ++ ys))), ?_, by simp [set_n], fun hn => .inr ⟨nid, 0, xs ++ ys, by simp, by simp [set_g], by simp, by simp [← List.length_append]⟩, fun i hi hn => ?_, by simp [AV.ids]⟩
    · have ho : (AV.sl t ys).oid = [] := rfl
      have hne : ([] : List Nat) ≠ [id] := by simp
      simp only [exApp, Eff.run, ho, List.mapM_cons, List.mapM_nil, h1, Option.pure_def, Option.bind_eq_bind, Option.bind_some, hl]
      by_cases he : off + xs.length = zs.length
      · rw [if_pos ⟨trivial, he, hok, hne⟩]
        have e : zs.drop off = xs := by rw [← h3, he, List.take_length]
        simp [St.setL, St.setO, e]
      · rw [if_neg (fun hh => he hh.2.1), if_pos ⟨trivial, by omega, hok, hne⟩]
        simp [St.setL, St.setO, h3]
    · simp only [AV.ids, List.mem_cons, List.not_mem_nil, or_false] at hi
      simp [set_g, hi, hn]
end Go.Rf

