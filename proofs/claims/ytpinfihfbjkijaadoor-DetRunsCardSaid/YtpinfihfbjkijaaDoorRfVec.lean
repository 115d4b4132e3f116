import Derived.Test.YtpinfihfbjkijaaDoorRfUse
set_option linter.unusedVariables false
set_option linter.unusedSimpArgs false
namespace Go.Rf
open Go.RowKit

/-! ### a list that grows, or is shortened from its beginning -/
def AV.ids : AV → List Nat
  | .own id _ _ => [id]
  | _ => []
/-- v is a list of one's own, up to its block's end: these are its elements. -/
def Vec (g : Nat → Option Blk) (v : AV) (es : Nat) (xs : List AV) : Prop :=
  (v = .sl true [] ∧ xs = []) ∨ ∃ id off ys, v = .own id off xs.length ∧ g id = some (.arr es ys) ∧ off ≤ ys.length ∧ ys.drop off = xs
def ptrAt (v : AV) (i : Nat) : AV :=
  match v with
  | .own id off _ => .ptr id (off + i) 0
  | _ => .junk
def St.without (S : St) (v : AV) : St :=
  match v with
  | .own id _ _ => S.set id none
  | _ => S
def St.setAt (S : St) (v : AV) (i : Nat) (x : AV) : St :=
  match v with
  | .own id off _ => match S.g id with
    | some (.arr es ys) => S.set id (some (.arr es (ys.set (off + i) x)))
    | _ => S
  | _ => S
theorem without_g {S : St} {v : AV} (j : Nat) (hj : j ∉ v.ids) : (S.without v).g j = S.g j := by
  cases v <;> simp_all [St.without, AV.ids, set_g]
theorem without_n {S : St} {v : AV} : (S.without v).n = S.n := by cases v <;> simp [St.without, set_n]
section
variable {g : Nat → Option Blk} {n : Nat} {v : AV} {es : Nat} {xs : List AV} {nid : Nat}
theorem Vec.nil : Vec g (.sl true []) es [] := .inl ⟨rfl, rfl⟩
theorem Vec.mk {id : Nat} (h : g id = some (.arr es xs)) : Vec g (.own id 0 xs.length) es xs := .inr ⟨id, 0, xs, rfl, h, by simp, by simp⟩
theorem Vec.mk' {id m : Nat} (h : g id = some (.arr es xs)) (hm : m = xs.length) : Vec g (.own id 0 m) es xs := hm ▸ Vec.mk h
theorem Vec.frame {g' : Nat → Option Blk} (h : Vec g v es xs) (hs : ∀ i ∈ v.ids, g' i = g i) : Vec g' v es xs := by
  rcases h with h | ⟨id, off, ys, rfl, h1, h2, h3⟩
  · exact .inl h
  · exact .inr ⟨id, off, ys, rfl, by rw [hs id (by simp [AV.ids])]; exact h1, h2, h3⟩
theorem Vec.live (h : Vec g v es xs) : ∀ i ∈ v.ids, ∃ ys, g i = some (.arr es ys) := by
  rcases h with ⟨rfl, _⟩ | ⟨id, off, ys, rfl, h1, h2, h3⟩
  · simp [AV.ids]
  · simp [AV.ids, h1]
theorem Vec.len (h : Vec g v es xs) : exLen v = some (.v (.int .i64 xs.length)) := by
  rcases h with ⟨rfl, rfl⟩ | ⟨id, off, ys, rfl, h1, h2, h3⟩ <;> simp [exLen]
theorem Vec.load (h : Vec g v es xs) (i : Nat) (hi : i < xs.length) (hc : (xs[i]).cells = [xs[i]]) : (exLoad none (ptrAt v i)).run ⟨n, g⟩ nid = some (xs[i], ⟨n, g⟩) := by
  rcases h with ⟨rfl, rfl⟩ | ⟨id, off, ys, rfl, h1, h2, h3⟩
  · simp at hi
  · have hl : off + xs.length = ys.length := by rw [← h3]; simp; omega
    have hg : ys[off + i]? = some xs[i] := by
      subst h3
      rw [List.getElem_drop]
      exact List.getElem?_eq_getElem (by omega)
    simp [exLoad, ptrAt, h1, hg, subc, hc]
theorem Vec.store {x : AV} (h : Vec g v 1 xs) (i : Nat) (hi : i < xs.length) (hx : x.solid = true) (hc : x.cells.length = 1) (hy : (xs[i]).cells.length = 1) :
    (exStore 1 (ptrAt v i) x).run ⟨n, g⟩ nid = some (.junk, St.setAt ⟨n, g⟩ v i x) ∧ Vec (St.setAt ⟨n, g⟩ v i x).g v 1 (xs.set i x) ∧ (∀ j, j ∉ v.ids → (St.setAt ⟨n, g⟩ v i x).g j = g j) ∧ (St.setAt ⟨n, g⟩ v i x).n = n := by
  rcases h with ⟨rfl, rfl⟩ | ⟨id, off, ys, rfl, h1, h2, h3⟩
  · simp at hi
  · have hl : off + xs.length = ys.length := by rw [← h3]; simp; omega
    have hg : ys[off + i]? = some xs[i] := by
      subst h3
      rw [List.getElem_drop]
      exact List.getElem?_eq_getElem (by omega)
    refine ⟨?_, .inr ⟨id, off, ys.set (off + i) x, by simp, by simp [St.setAt, h1, set_g], by simpa using h2, ?_⟩, fun j hj => ?_, ?_⟩
    · simp [exStore, ptrAt, h1, hg, hx, hc, hy, putc, St.setAt]
    · rw [← h3, List.drop_set, if_neg (by omega)]
      congr 1; omega
    · simp only [AV.ids, List.mem_singleton] at hj
      simp [St.setAt, h1, set_g, hj]
    · simp [St.setAt, h1, set_n]
theorem Vec.tail (h : Vec g v es xs) (k : IntKind) (hp : 0 < xs.length) : ∃ v', (exSlc es v (some (.v (.int k 1))) none).run ⟨n, g⟩ nid = some (v', ⟨n, g⟩) ∧ Vec g v' es xs.tail ∧ v'.ids = v.ids := by
  rcases h with ⟨rfl, rfl⟩ | ⟨id, off, ys, rfl, h1, h2, h3⟩
  · simp at hp
  · have hl : off + xs.length = ys.length := by rw [← h3]; simp; omega
    refine ⟨.own id (off + 1) (xs.length - 1), ?_, .inr ⟨id, off + 1, ys, by simp, h1, by omega, ?_⟩, rfl⟩
    · simp [exSlc, h1, bnd]
      exact List.ne_nil_of_length_pos hp
    · rw [← h3, List.tail_drop]
theorem Vec.app {x : AV} {by_ : Nat} (h : Vec g v es xs) (hes : ∀ z ∈ xs, z.cells.length = es) (hx : x.cells.length = es) (hok : appOk by_ xs.length 1) :
    (exApp es by_ v (.sl true [x])).run ⟨n, g⟩ nid = some (.own nid 0 (xs.length + 1), (St.without ⟨n, g⟩ v).set nid (some (.arr es (xs ++ [x])))) := by
  rcases h with ⟨rfl, rfl⟩ | ⟨id, off, ys, rfl, h1, h2, h3⟩
  · simp only [List.length_nil] at hok
    simp [exApp, Eff.run, AV.oid, lstE, hx, hok, St.without, St.setL, St.setO]
  · have hl : off + xs.length = ys.length := by rw [← h3]; simp; omega
    simp [exApp, Eff.run, AV.oid, lstE, hx, hok, St.without, St.setL, St.setO, h1, hl, h3]
/-- A list of plain elements, handed out. -/
theorem Vec.fz {X : Type} {enc : X → AV} {l : List X} (h : Vec g v es (l.map enc)) (hc : ∀ x, Closed (enc x)) : Fz g v (.sl false (l.map enc)) := by
  rcases h with ⟨rfl, h0⟩ | ⟨id, off, ys, rfl, h1, h2, h3⟩
  · rw [h0]; exact .loose true [] (.sl _ _ (by simp))
  · have hl : off + (l.map enc).length = ys.length := by rw [← h3]; simp; omega
    have ht : (ys.drop off).take (l.map enc).length = l.map enc := by rw [h3, List.take_length]
    refine .own id off _ es ys _ h1 (by omega) rfl (fun i h1 h2 => ?_)
    simp only [ht]
    refine .closed _ ?_
    rw [List.getElem_map]; exact hc _
end
/-- .. and new. -/
theorem Vec.fzN {g : Nat → Option Blk} {v : AV} {es : Nat} {l : List Int} (h : Vec g v es (l.map encI)) : FzN g v (.sl false (l.map encI)) := by
  rcases h with ⟨rfl, h0⟩ | ⟨id, off, ys, rfl, h1, h2, h3⟩
  · rw [h0]; exact .nil true false (by simp)
  · have hl : off + (l.map encI).length = ys.length := by rw [← h3]; simp; omega
    have ht : (ys.drop off).take (l.map encI).length = l.map encI := by rw [h3, List.take_length]
    refine .own id off _ es ys _ h1 (by omega) rfl (fun i h1 h2 => ?_)
    simp only [ht]
    rw [List.getElem_map]; exact .v _
theorem cells_I (l : List Int) : ∀ z ∈ l.map encI, z.cells.length = 1 := by
  intro z hz; obtain ⟨n, _, rfl⟩ := List.mem_map.mp hz; rfl
theorem appOk8 {n : Nat} (h : n ≤ 1000000000000) : appOk 8 n 1 := by unfold appOk; omega
/-! ### several lists that grow, apart from one another, and from the blocks av -/
structure Rows (g : Nat → Option Blk) (n : Nat) (av : List Nat) (vs : List AV) (ls : List (List Int)) : Prop where
  len : vs.length = ls.length
  row : ∀ t (h : t < vs.length) (h' : t < ls.length), Vec g vs[t] 1 ((ls[t]).map encI)
  sep : vs.Pairwise (fun a b => ∀ i ∈ a.ids, i ∉ b.ids)
  out : ∀ v ∈ vs, ∀ i ∈ v.ids, i < n ∧ i ∉ av
theorem Rows.frame {g g' : Nat → Option Blk} {n n' : Nat} {av : List Nat} {vs : List AV} {ls : List (List Int)} (h : Rows g n av vs ls) (hn : n ≤ n') (hg : ∀ i, i < n → i ∉ av → g' i = g i) : Rows g' n' av vs ls :=
  ⟨h.len, fun t h1 h2 => (h.row t h1 h2).frame (fun i hi => hg i (h.out _ (List.getElem_mem h1) i hi).1 (h.out _ (List.getElem_mem h1) i hi).2), h.sep, fun v hv i hi => ⟨Nat.lt_of_lt_of_le (h.out v hv i hi).1 hn, (h.out v hv i hi).2⟩⟩
theorem Rows.other {g : Nat → Option Blk} {n : Nat} {av : List Nat} {vs : List AV} {ls : List (List Int)} (h : Rows g n av vs ls) {t u : Nat} (ht : t < vs.length) (hu : u < vs.length) (hne : t ≠ u) : ∀ i ∈ vs[t].ids, i ∉ vs[u].ids := by
  have hp := List.pairwise_iff_getElem.mp h.sep
  rcases Nat.lt_or_ge t u with h1 | h1
  · exact hp t u ht hu h1
  · intro i hi hi2
    exact hp u t hu ht (by omega) i hi2 hi
/-- One of them is another one, in a block of its own, or none. -/
theorem Rows.upd {g g' : Nat → Option Blk} {n n' : Nat} {av : List Nat} {vs : List AV} {ls : List (List Int)} (h : Rows g n av vs ls) {t : Nat} (ht : t < vs.length) {v : AV} {l : List Int} (hv : Vec g' v 1 (l.map encI)) (hn : n ≤ n')
    (hid : ∀ i ∈ v.ids, i < n' ∧ i ∉ av ∧ (i ∈ vs[t].ids ∨ n ≤ i)) (hg : ∀ i, i < n → i ∉ av → i ∉ vs[t].ids → g' i = g i) : Rows g' n' av (vs.set t v) (ls.set t l) := by
  refine ⟨by simp [h.len], fun u h1 h2 => ?_, ?_, fun w hw i hi => ?_⟩
  · simp only [List.length_set] at h1 h2
    rw [List.getElem_set, List.getElem_set]
    by_cases hu : t = u
    · rw [if_pos hu, if_pos hu]; exact hv
    · rw [if_neg hu, if_neg hu]
      refine (h.row u h1 h2).frame fun i hi => ?_
      obtain ⟨o1, o2⟩ := h.out _ (List.getElem_mem h1) i hi
      exact hg i o1 o2 (fun h3 => h.other ht h1 hu i h3 hi)
  · rw [List.pairwise_iff_getElem]
    intro a b ha hb hab i hi
    simp only [List.length_set] at ha hb
    rw [List.getElem_set] at hi ⊢
    by_cases h1 : t = a
    · rw [if_pos h1] at hi
      rw [if_neg (by omega)]
      rcases (hid i hi).2.2 with h3 | h3
      · exact h.other ht hb (by omega) i h3
      · intro h4; have := (h.out _ (List.getElem_mem hb) i h4).1; omega
    · rw [if_neg h1] at hi
      by_cases h2 : t = b
      · rw [if_pos h2]
        intro h4
        rcases (hid i h4).2.2 with h3 | h3
        · exact h.other ht ha h1 i h3 hi
        · have := (h.out _ (List.getElem_mem ha) i hi).1; omega
      · rw [if_neg h2]
        exact h.other ha hb (by omega) i hi
  · rcases List.mem_or_eq_of_mem_set hw with hw | rfl
    · obtain ⟨o1, o2⟩ := h.out w hw i hi; exact ⟨by omega, o2⟩
    · exact ⟨(hid i hi).1, (hid i hi).2.1⟩
/-- One of them grows. -/
theorem Rows.app {g : Nat → Option Blk} {n m : Nat} {av : List Nat} {vs : List AV} {ls : List (List Int)} (h : Rows g n av vs ls) {t : Nat} (ht : t < vs.length) (ht' : t < ls.length) (x : Int) {nid : Nat} (h1 : n ≤ nid) (h2 : nid < m) (h3 : nid ∉ av) :
    Rows ((St.without ⟨m, g⟩ vs[t]).set nid (some (.arr 1 ((ls[t]).map encI ++ [encI x])))).g m av (vs.set t (.own nid 0 ((ls[t]).length + 1))) (ls.set t (ls[t] ++ [x])) := by
  refine h.upd ht (.mk' (by simp [set_g]) (by simp)) (by omega) (fun i hi => ?_) (fun i h4 h5 h6 => ?_)
  · simp only [AV.ids, List.mem_singleton] at hi
    subst hi
    exact ⟨h2, h3, .inr h1⟩
  · rw [set_g, if_neg (by omega), without_g i h6]
theorem Rows.av {g : Nat → Option Blk} {n m : Nat} {av : List Nat} {vs : List AV} {ls : List (List Int)} (h : Rows g n av vs ls) {t : Nat} (ht : t < vs.length) {nid : Nat} (b : Option Blk) {i : Nat} (hi : i ∈ av) (hne : i ≠ nid) :
    ((St.without ⟨m, g⟩ vs[t]).set nid b).g i = g i := by
  rw [set_g, if_neg hne, without_g i (fun h6 => (h.out _ (List.getElem_mem ht) i h6).2 hi)]
end Go.Rf

