import Derived.Test.YtpllebbaahanjaaRfMem
set_option linter.unusedVariables false
namespace Go.Rf
open Go.RowKit

theorem AV.cells_atom {x : AV} (h : x.atom = true) : x.cells = [x] := by cases x <;> simp_all [AV.atom, AV.cells]
theorem length_flat {xs : List AV} {es : Nat} (h : ∀ x ∈ xs, x.cells.length = es) : (flat xs).length = xs.length * es := by
  induction xs with
  | nil => simp [flat]
  | cons x xs ih =>
    have h1 := h x (by simp)
    have h2 := ih (fun y hy => h y (by simp [hy]))
    simp only [flat, List.flatMap_cons, List.length_append, List.length_cons] at h2 ⊢
    rw [h1, h2, Nat.add_mul, Nat.one_mul, Nat.add_comm]
theorem flat_append (xs ys : List AV) : flat (xs ++ ys) = flat xs ++ flat ys := by simp [flat]
/-- The cells of element i are those from i * es on. -/
theorem flat_at {xs : List AV} {es : Nat} (h : ∀ x ∈ xs, x.cells.length = es) (i : Nat) (hi : i < xs.length) (j : Nat) (hj : j < (xs[i]).cells.length) :
    ∃ hk : i * es + j < (flat xs).length, (flat xs)[i * es + j] = (xs[i]).cells[j] := by
  induction xs generalizing i with
  | nil => simp at hi
  | cons x xs ih =>
    have hx := h x (by simp)
    have hxs : ∀ y ∈ xs, y.cells.length = es := fun y hy => h y (by simp [hy])
    have hl := length_flat h
    cases i with
    | zero =>
      have hj' : j < x.cells.length := hj
      refine ⟨by rw [hl]; simp only [List.length_cons, Nat.zero_mul, Nat.zero_add, Nat.add_mul, Nat.one_mul]; omega, ?_⟩
      have : flat (x :: xs) = x.cells ++ flat xs := by simp [flat]
      simp only [this, Nat.zero_mul, Nat.zero_add, List.getElem_cons_zero]
      rw [List.getElem_append_left hj']
    | succ i =>
      obtain ⟨hk, e⟩ := ih hxs i (by simpa using hi) (by simpa using hj)
      have h2 : flat (x :: xs) = x.cells ++ flat xs := by simp [flat]
      have hadd : (i + 1) * es + j = x.cells.length + (i * es + j) := by rw [hx, Nat.add_mul, Nat.one_mul]; omega
      refine ⟨by rw [h2, List.length_append, hadd]; omega, ?_⟩
      simp only [h2, hadd, List.getElem_cons_succ]
      rw [List.getElem_append_right (by omega)]
      simpa using e
theorem flat_drop {xs : List AV} {es : Nat} (h : ∀ x ∈ xs, x.cells.length = es) (m : Nat) : flat (xs.drop m) = (flat xs).drop (m * es) := by
  induction xs generalizing m with
  | nil => simp [flat]
  | cons x xs ih =>
    cases m with
    | zero => simp
    | succ m =>
      have hx := h x (by simp)
      have h2 : flat (x :: xs) = x.cells ++ flat xs := by simp [flat]
      rw [List.drop_succ_cons, ih (fun y hy => h y (by simp [hy])), h2, Nat.add_mul, Nat.one_mul, Nat.add_comm, ← hx, List.drop_append]
      simp
theorem flat_take {xs : List AV} {es : Nat} (h : ∀ x ∈ xs, x.cells.length = es) (m : Nat) : flat (xs.take m) = (flat xs).take (m * es) := by
  induction xs generalizing m with
  | nil => simp [flat]
  | cons x xs ih =>
    cases m with
    | zero => simp [flat]
    | succ m =>
      have hx := h x (by simp)
      have h2 : flat (x :: xs) = x.cells ++ flat xs := by simp [flat]
      have h3 : flat (x :: xs.take m) = x.cells ++ flat (xs.take m) := by simp [flat]
      rw [List.take_succ_cons, h3, ih (fun y hy => h y (by simp [hy])), h2, Nat.add_mul, Nat.one_mul, Nat.add_comm, ← hx, List.take_append]
      simp [List.take_of_length_le]
/-- What a slice reads as, at a world: elements of es cells. -/
structure Reads (E : Env) (w : World) (es : Nat) (ys : List AV) (A : Option Addr) : Prop where
  hes : ∀ x ∈ ys, x.cells.length = es
  hat : ∀ y ∈ flat ys, y.atom = true
  at_ : ys ≠ [] → ∃ b o cs el fz, A = some ⟨b, o, none⟩ ∧ w.heap[b]? = some (.cells cs el fz) ∧ ∀ k (h : k < (flat ys).length), ∃ v, cs[o + k]? = some v ∧ Rep E ((flat ys)[k]) v
theorem Reads.nil (E : Env) (w : World) (es : Nat) (A : Option Addr) : Reads E w es [] A := ⟨by simp, by simp [flat], by simp⟩
theorem reads_sl {E : Env} {S : St} {w : World} (h : Sim E S w) {t : Bool} {xs : List AV} {v : Value} (r : Rep E (.sl t xs) v) {es : Nat} (hes : ∀ x ∈ xs, x.cells.length = es) :
    ∃ A cap, v = .slice A xs.length cap ∧ xs.length ≤ cap ∧ (t = true → cap = xs.length) ∧ Reads E w es xs A := by
  cases r with
  | sl0 _ A cap ht => exact ⟨A, cap, rfl, by simp, by simpa using ht, .nil _ _ _ _⟩
  | sl _ _ b o cap cs es' f hne hb hes' hcap ht hat hc hr =>
    obtain ⟨el, fz, hw⟩ := h.hH b cs hb
    exact ⟨_, cap, rfl, hcap, ht, hes, hat, fun _ => ⟨b, o, cs, el, fz, rfl, hw, fun k hk => ⟨f k, hc k hk, hr k hk⟩⟩⟩
theorem BlkOk.reads {E : Env} {w : World} {l : Loc} {es : Nat} {xs : List AV} (h : BlkOk E w l (.arr es xs)) (off len : Nat) (hl : off + len ≤ xs.length) :
    Reads E w es ((xs.drop off).take len) (some ⟨l.b, l.o + off * es, none⟩) := by
  obtain ⟨h1, h2, h3, h4, cs, el, h5, h6, h7⟩ := h
  have hd : ∀ x ∈ xs.drop off, x.cells.length = es := fun x hx => h3 x (List.mem_of_mem_drop hx)
  have hf : flat ((xs.drop off).take len) = ((flat xs).drop (off * es)).take (len * es) := by rw [flat_take hd, flat_drop h3]
  refine ⟨fun x hx => hd x (List.mem_of_mem_take hx), fun y hy => ?_, fun _ => ⟨l.b, l.o + off * es, cs, el, (0, 0), rfl, h5, fun k hk => ?_⟩⟩
  · rw [hf] at hy; exact h4 y (List.mem_of_mem_drop (List.mem_of_mem_take hy))
  · have hk' : k < (((flat xs).drop (off * es)).take (len * es)).length := by rw [← hf]; exact hk
    have hk2 : off * es + k < (flat xs).length := by
      simp only [List.length_take, List.length_drop] at hk'
      omega
    obtain ⟨v, a, b⟩ := h7 (off * es + k) hk2
    refine ⟨v, by rw [Nat.add_assoc]; exact a, ?_⟩
    have : (flat ((xs.drop off).take len))[k] = (flat xs)[off * es + k] := by
      simp only [hf, List.getElem_take, List.getElem_drop]
    rw [this]; exact b
theorem reads_own {E : Env} {S : St} {w : World} (h : Sim E S w) {id off len : Nat} {v : Value} (r : Rep E (.own id off len) v) {es : Nat} {xs : List AV} (hg : S.g id = some (.arr es xs))
    (hl : off + len ≤ xs.length) : ∃ A cap, v = .slice A len cap ∧ len ≤ cap ∧ Reads E w es ((xs.drop off).take len) A := by
  cases r with
  | own _ _ _ A cap l hρ hlen hA =>
    obtain ⟨l', e, hN, ok⟩ := h.live id _ hg
    rw [hρ] at e; cases e
    refine ⟨A, cap, rfl, hlen, ?_⟩
    by_cases hc : cap = 0
    · have : len = 0 := by omega
      subst this
      simp only [List.take_zero]
      exact .nil _ _ _ _
    · obtain ⟨hA1, hA2⟩ := hA hc
      have hes : l.es = es := ok.1
      rw [hA1, hes]
      exact ok.reads off len hl
theorem Reads.elem {E : Env} {w : World} {es : Nat} {ys : List AV} {A : Option Addr} (h : Reads E w es ys A) (i : Nat) (hi : i < ys.length) :
    ∃ b o cs el fz, A = some ⟨b, o, none⟩ ∧ w.heap[b]? = some (.cells cs el fz) ∧ ∀ j (hj : j < (ys[i]).cells.length), ∃ v, cs[o + (i * es + j)]? = some v ∧ Rep E ((ys[i]).cells[j]) v := by
  obtain ⟨b, o, cs, el, fz, h1, h2, h3⟩ := h.at_ (by intro e; subst e; simp at hi)
  refine ⟨b, o, cs, el, fz, h1, h2, fun j hj => ?_⟩
  obtain ⟨hk, e⟩ := flat_at h.hes i hi j hj
  obtain ⟨v, a, c⟩ := h3 _ hk
  rw [e] at c
  exact ⟨v, a, c⟩
theorem Rep.oneCell {E : Env} {x : AV} {v : Value} (r : Rep E x v) (h : x.atom = true) : v.oneCell' = true := by
  obtain ⟨_, h2, h3⟩ := r.atom_cells h
  cases v <;> simp_all [Value.oneCell']
theorem cell_of_heap {w : World} {b o : Nat} {cs : Array Value} {el : TypeId} {fz : Nat × Nat} (h : w.heap[b]? = some (.cells cs el fz)) : w.cell? ⟨b, o, none⟩ = cs[o]? := by
  simp [World.cell?, h]
theorem addr_add (b o n : Nat) : (⟨b, o, none⟩ : Addr).add n = ⟨b, o + n, none⟩ := by unfold Addr.add; split <;> simp_all
/-- All cells of a slice that is read, at once. -/
theorem Reads.first {P : Program} {E : Env} {w : World} {es : Nat} {ys : List AV} {A : Option Addr} (h : Reads E w es ys A) (cap : Nat) :
    ∃ news : List Value, (Builtin.firstCells es ys.length (.slice A ys.length cap)).run P w = .ok news.toArray w ∧ news.length = ys.length * es ∧
      (∀ u ∈ news, u.oneCell' = true) ∧ ∀ k (hk : k < (flat ys).length), ∃ v, news[k]? = some v ∧ Rep E ((flat ys)[k]) v := by
  by_cases hy : ys = []
  · subst hy
    refine ⟨[], ?_, by simp, by simp, by simp [flat]⟩
    cases A <;> simp [Builtin.firstCells, loadCells, loadCellsFrom]
  · obtain ⟨b, o, cs, el, fz, h1, h2, h3⟩ := h.at_ hy
    subst h1
    have hlen := length_flat h.hes
    let news := (List.range (ys.length * es)).map fun k => cs.getD (o + k) undef
    have hn : ∀ j v, news[j]? = some v → w.cell? ((⟨b, o, none⟩ : Addr).add j) = some v := by
      intro j v hv
      have hj : j < ys.length * es := by
        have := (List.getElem?_eq_some_iff.mp hv).1
        simpa [news] using this
      obtain ⟨v', a, _⟩ := h3 j (by omega)
      rw [addr_add, cell_of_heap h2, a]
      simp [news, hj, Array.getD_eq_getD_getElem?, a] at hv
      rw [hv]
    have hl : news.length = ys.length * es := by simp [news]
    refine ⟨news, ?_, hl, ?_, fun k hk => ?_⟩
    · simp only [Builtin.firstCells]
      have := run_loadCells_list (P := P) w ⟨b, o, none⟩ news hn
      rw [hl] at this; exact this
    · intro u hu
      obtain ⟨k, hk, e⟩ := List.mem_iff_getElem.mp hu
      have hk' : k < (flat ys).length := by rw [hlen]; omega
      obtain ⟨v, a, r⟩ := h3 k hk'
      have : u = v := by
        rw [← e]; simp [news, Array.getD_eq_getD_getElem?, a]
      subst this
      exact r.oneCell (h.hat _ (List.getElem_mem hk'))
    · obtain ⟨v, a, r⟩ := h3 k hk
      have hk2 : k < ys.length * es := by omega
      exact ⟨v, by simp [news, hk2, Array.getD_eq_getD_getElem?, a], r⟩
end Go.Rf

