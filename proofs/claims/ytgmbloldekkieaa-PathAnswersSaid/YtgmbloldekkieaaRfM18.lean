/- Own work: how far it is to an end, breadth first: the plain law. -/
set_option linter.unusedVariables false
set_option linter.unusedSimpArgs false
namespace Go.Rf

structure Gr where
  next : List (List Int)
  fin : List Bool
def Gr.n (g : Gr) : Nat := g.next.length
def Gr.edge (g : Gr) (s t : Nat) : Prop := ∃ row, g.next[s]? = some row ∧ (t : Int) ∈ row
def Gr.isEnd (g : Gr) (s : Nat) : Bool := g.fin.getD s false
structure GrOk (g : Gr) : Prop where
  fin : g.fin.length = g.next.length
  n : g.next.length ≤ 9000
  rows : ∀ r ∈ g.next, r.length ≤ 400
  at_ : ∀ r ∈ g.next, ∀ t ∈ r, t = -1 ∨ (0 ≤ t ∧ t < g.next.length)

/-- A list read as a function: below 0 where there is nothing. -/
def rd (l : List Int) (s : Nat) : Int := l.getD s (-1)
theorem rd_set {l : List Int} {k : Nat} (hk : k < l.length) (x : Int) (s : Nat) : rd (l.set k x) s = if s = k then x else rd l s := by
  unfold rd
  simp only [List.getD_eq_getElem?_getD, List.getElem?_set]
  by_cases h : k = s
  · subst h; simp [hk]
  · rw [if_neg h, if_neg (Ne.symm h)]
def cntA (l : List Int) : Nat := l.countP (fun x => decide (0 ≤ x))
theorem cntA_set {l : List Int} {k : Nat} (hk : k < l.length) (h : rd l k < 0) {x : Int} (hx : 0 ≤ x) : cntA (l.set k x) = cntA l + 1 := by
  have e : l[k] = rd l k := by simp [rd, List.getD_eq_getElem?_getD, List.getElem?_eq_getElem hk]
  unfold cntA
  rw [List.countP_set hk]
  have h1 : decide (0 ≤ l[k]) = false := by simp; omega
  simp [h1, hx]
theorem cntA_le (l : List Int) : cntA l ≤ l.length := List.countP_le_length

/-- How far it is from each state to an end. -/
structure FarOk (g : Gr) (fs : List Int) : Prop where
  len : fs.length = g.n
  val : ∀ s, s < g.n → -1 ≤ rd fs s
  lt : ∀ s, s < g.n → rd fs s < g.n
  zero : ∀ s, s < g.n → (rd fs s = 0 ↔ g.isEnd s = true)
  pre : ∀ s, s < g.n → 0 < rd fs s → ∃ t, t < g.n ∧ g.edge s t ∧ rd fs t = rd fs s - 1
  suc : ∀ s t, s < g.n → t < g.n → g.edge s t → 0 ≤ rd fs t → 0 ≤ rd fs s ∧ rd fs s ≤ rd fs t + 1

structure Bfs (g : Gr) (far : List Int) (q : List Nat) : Prop where
  len : far.length = g.n
  val : ∀ s, s < g.n → -1 ≤ rd far s
  zero : ∀ s, s < g.n → (rd far s = 0 ↔ g.isEnd s = true)
  pre : ∀ s, s < g.n → 0 < rd far s → ∃ t, t < g.n ∧ g.edge s t ∧ rd far t = rd far s - 1
  qa : ∀ s ∈ q, s < g.n ∧ 0 ≤ rd far s
  sorted : q.Pairwise (fun a b => rd far a ≤ rd far b)
  top : ∀ h t, q = h :: t → ∀ s, s < g.n → rd far s ≤ rd far h + 1
  done : ∀ u, u < g.n → 0 ≤ rd far u → u ∉ q → ∀ s, s < g.n → g.edge s u → 0 ≤ rd far s ∧ rd far s ≤ rd far u + 1
  cnt : ∀ s, s < g.n → 0 ≤ rd far s → rd far s < cntA far

theorem Bfs.assign {g : Gr} {far : List Int} {h : Nat} {q : List Nat} (b : Bfs g far (h :: q)) {s : Nat} (hs : s < g.n) (he : g.edge s h) (hu : rd far s = -1) : Bfs g (far.set s (rd far h + 1)) (h :: q ++ [s]) := by
  have hl : s < far.length := by rw [b.len]; exact hs
  obtain ⟨hh, hh0⟩ := b.qa h (by simp)
  have hr := fun k => rd_set hl (rd far h + 1) k
  have hnq : s ∉ h :: q := fun hm => by have := (b.qa s hm).2; omega
  have old : ∀ u, u < g.n → 0 ≤ rd far u → rd (far.set s (rd far h + 1)) u = rd far u := by
    intro u hu1 hu2; rw [hr, if_neg]; intro e; subst e; omega
  have hsame : ∀ u ∈ h :: q, rd (far.set s (rd far h + 1)) u = rd far u := fun u hu1 => old u (b.qa u hu1).1 (b.qa u hu1).2
  refine ⟨by rw [List.length_set]; exact b.len, fun u hu1 => ?_, fun u hu1 => ?_, fun u hu1 hp => ?_, fun u hm => ?_, ?_, fun h' t' e u hu1 => ?_, fun u hu1 h0 hn p hp hep => ?_, fun u hu1 h0 => ?_⟩
  · rw [hr]; split
    · omega
    · exact b.val u hu1
  · rw [hr]; split
    · rename_i e; subst e
      have := b.zero u hu1
      constructor
      · intro h1; omega
      · intro h1; have := this.mpr h1; omega
    · exact b.zero u hu1
  · by_cases e : u = s
    · subst e
      refine ⟨h, hh, he, ?_⟩
      rw [hsame h (by simp), hr, if_pos rfl]; omega
    · rw [hr, if_neg e] at hp
      obtain ⟨t, t1, t2, t3⟩ := b.pre u hu1 hp
      refine ⟨t, t1, t2, ?_⟩
      rw [old t t1 (by omega), hr, if_neg e]; exact t3
  · rcases List.mem_append.mp hm with hm | hm
    · have := b.qa u hm; rw [hsame u hm]; exact this
    · simp at hm; subst hm; refine ⟨hs, ?_⟩; rw [hr, if_pos rfl]; omega
  · rw [List.pairwise_append]
    refine ⟨?_, by simp, fun x hx y hy => ?_⟩
    · refine List.Pairwise.imp_of_mem (fun {a c} ha hc hac => ?_) b.sorted
      rw [hsame a ha, hsame c hc]; exact hac
    · simp at hy; subst hy
      rw [hsame x hx, hr, if_pos rfl]
      exact b.top h q rfl x (b.qa x hx).1
  · simp only [List.cons_append, List.cons.injEq] at e
    obtain ⟨rfl, _⟩ := e
    rw [hsame h (by simp), hr]
    split
    · omega
    · exact b.top h q rfl u hu1
  · have hus : u ≠ s := fun e => hn (by subst e; simp)
    rw [hr, if_neg hus] at h0
    have hnu : u ∉ h :: q := fun hm => hn (List.mem_append_left _ hm)
    obtain ⟨d1, d2⟩ := b.done u hu1 h0 hnu p hp hep
    rw [old p hp d1, hr, if_neg hus]; exact ⟨d1, d2⟩
  · rw [cntA_set hl (by omega) (by omega)]
    rw [hr] at h0 ⊢
    have hc := b.cnt h hh hh0
    split
    · omega
    · rename_i e
      rw [if_neg e] at h0
      have := b.cnt u hu1 h0; omega

theorem Bfs.pop {g : Gr} {far : List Int} {h : Nat} {q : List Nat} (b : Bfs g far (h :: q)) (hp : ∀ s, s < g.n → g.edge s h → 0 ≤ rd far s) : Bfs g far q := by
  have hsort := List.pairwise_cons.mp b.sorted
  refine ⟨b.len, b.val, b.zero, b.pre, fun s hs => b.qa s (by simp [hs]), hsort.2, fun h' t' e s hs => ?_, fun u hu h0 hn s hs he => ?_, b.cnt⟩
  · have h1 := b.top h q rfl s hs
    have h2 := hsort.1 h' (by rw [e]; simp)
    omega
  · by_cases hh : u = h
    · subst hh
      exact ⟨hp s hs he, b.top u q rfl s hs⟩
    · exact b.done u hu h0 (by simp [hh, hn]) s hs he

theorem Bfs.ok {g : Gr} {far : List Int} (b : Bfs g far []) : FarOk g far := by
  refine ⟨b.len, b.val, fun s hs => ?_, b.zero, b.pre, fun s t hs ht he h0 => b.done t ht h0 (by simp) s hs he⟩
  have hc := cntA_le far
  have hl := b.len
  by_cases h0 : 0 ≤ rd far s
  · have := b.cnt s hs h0; omega
  · omega

/-- It is the only one. -/
theorem FarOk.uniq {g : Gr} {a b : List Int} (ha : FarOk g a) (hb : FarOk g b) : a = b := by
  have half : ∀ {a b : List Int}, FarOk g a → FarOk g b → ∀ (k : Nat) s, s < g.n → rd a s = k → 0 ≤ rd b s ∧ rd b s ≤ k := by
    intro a b ha hb k
    induction k with
    | zero =>
      intro s hs e
      have := (hb.zero s hs).mpr ((ha.zero s hs).mp (by simpa using e))
      omega
    | succ k ih =>
      intro s hs e
      obtain ⟨t, t1, t2, t3⟩ := ha.pre s hs (by omega)
      obtain ⟨i1, i2⟩ := ih t t1 (by omega)
      have := hb.suc s t hs t1 t2 i1
      omega
  have key : ∀ s, s < g.n → rd a s = rd b s := by
    intro s hs
    have va := ha.val s hs
    have vb := hb.val s hs
    by_cases h1 : 0 ≤ rd a s
    · have h2 := half ha hb (rd a s).toNat s hs (by omega)
      have h3 := half hb ha (rd b s).toNat s hs (by omega)
      omega
    · by_cases h2 : 0 ≤ rd b s
      · have h3 := half hb ha (rd b s).toNat s hs (by omega)
        omega
      · omega
  refine List.ext_getElem (by rw [ha.len, hb.len]) fun i h1 h2 => ?_
  have := key i (by rw [← ha.len]; exact h1)
  simpa [rd, List.getD_eq_getElem?_getD, List.getElem?_eq_getElem h1, List.getElem?_eq_getElem h2] using this

theorem Bfs.run {g : Gr} : ∀ (m k : Nat) {far : List Int} {q : List Nat}, g.n - cntA far = m → q.length = k → Bfs g far q → ∃ fs, FarOk g fs := by
  intro m
  induction m using Nat.strongRecOn with
  | _ m ihm =>
    intro k
    induction k with
    | zero =>
      intro far q _ hq b
      have : q = [] := List.eq_nil_of_length_eq_zero hq
      subst this
      exact ⟨far, b.ok⟩
    | succ k ihk =>
      intro far q hm hq b
      cases q with
      | nil => simp at hq
      | cons h q =>
        by_cases hx : ∃ s, s < g.n ∧ g.edge s h ∧ rd far s = -1
        · obtain ⟨s, hs, he, hu⟩ := hx
          have hl : s < far.length := by rw [b.len]; exact hs
          have hh0 := (b.qa h (by simp)).2
          have hc := cntA_set hl (by omega) (x := rd far h + 1) (by omega)
          have hle := cntA_le (far.set s (rd far h + 1))
          have hlen := b.len
          rw [List.length_set] at hle
          exact ihm (g.n - cntA (far.set s (rd far h + 1))) (by omega) _ rfl rfl (b.assign hs he hu)
        · refine ihk hm (by simpa using hq) (b.pop fun s hs he => ?_)
          have hv := b.val s hs
          by_cases h1 : rd far s = -1
          · exact (hx ⟨s, hs, he, h1⟩).elim
          · omega

/-- The beginning: the marked ones are at 0. -/
structure Start (g : Gr) (far : List Int) (q : List Nat) : Prop where
  len : far.length = g.n
  val : ∀ s, s < g.n → rd far s = if g.isEnd s = true then 0 else -1
  q : ∀ s, s ∈ q ↔ s < g.n ∧ g.isEnd s = true
theorem Start.bfs {g : Gr} {far : List Int} {q : List Nat} (h : Start g far q) (hc : ∀ s, s < g.n → g.isEnd s = true → 0 < cntA far) : Bfs g far q := by
  have hz : ∀ s, s < g.n → 0 ≤ rd far s → g.isEnd s = true ∧ rd far s = 0 := by
    intro s hs h0
    have := h.val s hs
    split at this
    · exact ⟨by assumption, this⟩
    · omega
  refine ⟨h.len, fun s hs => ?_, fun s hs => ?_, fun s hs h0 => ?_, fun s hm => ?_, ?_, fun a t e s hs => ?_, fun u hu h0 hn => ?_, fun s hs h0 => ?_⟩
  · rw [h.val s hs]; split <;> omega
  · rw [h.val s hs]; split <;> simp_all
  · have := (hz s hs (by omega)).2; omega
  · obtain ⟨h1, h2⟩ := (h.q s).mp hm
    refine ⟨h1, ?_⟩; rw [h.val s h1, if_pos h2]; exact Int.le_refl _
  · refine List.Pairwise.imp_of_mem (R := fun _ _ => True) (fun {a b} ha hb _ => ?_) (List.pairwise_of_forall (fun _ _ => trivial))
    obtain ⟨a1, a2⟩ := (h.q a).mp ha
    obtain ⟨b1, b2⟩ := (h.q b).mp hb
    rw [h.val a a1, h.val b b1, if_pos a2, if_pos b2]; exact Int.le_refl _
  · obtain ⟨a1, a2⟩ := (h.q a).mp (by rw [e]; simp)
    rw [h.val a a1, if_pos a2, h.val s hs]; split <;> omega
  · exact (hn ((h.q u).mpr ⟨hu, (hz u hu h0).1⟩)).elim
  · have := hz s hs h0
    have := hc s hs this.1
    omega
theorem cntA_pos {l : List Int} {s : Nat} (hs : s < l.length) (h : 0 ≤ rd l s) : 0 < cntA l := by
  have e : l[s] = rd l s := by simp [rd, List.getD_eq_getElem?_getD, List.getElem?_eq_getElem hs]
  refine List.countP_pos_iff.mpr ⟨l[s], List.getElem_mem hs, by rw [e]; simpa using h⟩
theorem Start.bfs' {g : Gr} {far : List Int} {q : List Nat} (h : Start g far q) : Bfs g far q :=
  h.bfs fun s hs he => cntA_pos (s := s) (by rw [h.len]; exact hs) (by rw [h.val s hs, if_pos he]; exact Int.le_refl _)
theorem far_ex (g : Gr) : ∃ fs, FarOk g fs := by
  have h : Start g ((List.range g.n).map fun s => if g.isEnd s = true then (0 : Int) else -1) ((List.range g.n).filter g.isEnd) :=
    ⟨by simp, fun s hs => by simp [rd, List.getD_eq_getElem?_getD, hs], fun s => by simp [List.mem_filter]⟩
  exact h.bfs'.run _ _ rfl rfl
noncomputable def farS (g : Gr) : List Int := (far_ex g).choose
theorem farS_ok (g : Gr) : FarOk g (farS g) := (far_ex g).choose_spec
theorem farS_eq {g : Gr} {fs : List Int} (h : FarOk g fs) : farS g = fs := (farS_ok g).uniq h
end Go.Rf
