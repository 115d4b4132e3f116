import Derived.Test.YtpllebbaahanjaaRfBase
import Derived.Laws.CopyRow
import Derived.Laws.AppendOwn
import Derived.Laws.MakeOwn
import Derived.Laws.NewBlocks
set_option linter.unusedVariables false
namespace Go.Rf
open Go.RowKit

def updF {α : Type} (f : Nat → α) (i : Nat) (x : α) : Nat → α := fun j => if j = i then x else f j
@[simp] theorem updF_same {α : Type} (f : Nat → α) (i : Nat) (x : α) : updF f i x i = x := by simp [updF]
def St.set (S : St) (i : Nat) (k : Option Blk) : St := ⟨S.n, updF S.g i k⟩
def Env.loc (E : Env) (i : Nat) (l : Loc) : Env := ⟨updF E.ρ i (some l), E.H⟩
def Env.frz (E : Env) (b : Nat) (cs : Array Value) : Env := ⟨E.ρ, updF E.H b (some cs)⟩
theorem Sim.H_lt {E : Env} {S : St} {w : World} (h : Sim E S w) {b : Nat} {cs : Array Value} (e : E.H b = some cs) : b < w.heap.size := by
  obtain ⟨el, fz, h1⟩ := h.hH b cs e
  exact (Array.getElem?_eq_some_iff.mp h1).1
theorem Sim.H_none {E : Env} {S : St} {w : World} (h : Sim E S w) {b : Nat} (hb : w.heap.size ≤ b) : E.H b = none := by
  cases e : E.H b with
  | none => rfl
  | some cs => have := h.H_lt e; omega
theorem Sim.rho {E : Env} {S : St} {w : World} (h : Sim E S w) {i : Nat} {k : Blk} (e : S.g i = some k) : ∃ l, E.ρ i = some l := by
  obtain ⟨l, h1, _⟩ := h.live i k e; exact ⟨l, h1⟩
theorem Sim.lt {E : Env} {S : St} {w : World} (h : Sim E S w) {i : Nat} {k : Blk} (e : S.g i = some k) : i < S.n := by
  obtain ⟨l, h1⟩ := h.rho e
  rcases Nat.lt_or_ge i S.n with h2 | h2
  · exact h2
  · rw [h.fresh i h2] at h1; cases h1
theorem Env.le_loc {E : Env} {i : Nat} {l : Loc} (h : E.ρ i = none) : E.le (E.loc i l) := by
  refine ⟨fun j k e => ?_, fun _ _ e => e⟩
  simp only [Env.loc, updF]
  split
  · subst_vars; rw [h] at e; cases e
  · exact e
theorem Env.le_frz {E : Env} {b : Nat} {cs : Array Value} (h : E.H b = none) : E.le (E.frz b cs) := by
  refine ⟨fun _ _ e => e, fun c k e => ?_⟩
  simp only [Env.frz, updF]
  split
  · subst_vars; rw [h] at e; cases e
  · exact e
/-- A world whose draws alone differ, or that is otherwise the same memory. -/
theorem Sim.drew {E : Env} {S : St} {w : World} (h : Sim E S w) : Sim E S w.drew :=
  ⟨h.hH, fun i k e => let ⟨l, a, b, c⟩ := h.live i k e; ⟨l, a, b, c.mono (Env.le_refl _) rfl⟩, h.dis, h.fresh⟩
theorem Evo.drew (E : Env) (S : St) (w : World) : Evo E S w E S w.drew :=
  ⟨rfl, rfl, rfl, Nat.le_refl _, fun _ _ _ => rfl, fun id l k hk hl => .inr ⟨id, l, k, hk, hl, rfl⟩, Env.le_refl _, fun _ _ e => .inl e⟩
theorem heap_alloc_lt (w : World) (o : Obj) {b : Nat} (h : b < w.heap.size) : (w.alloc o).heap[b]? = w.heap[b]? := by
  show (w.heap.push o)[b]? = _
  rw [Array.getElem?_push, if_neg (by omega)]
theorem heap_alloc_new (w : World) (o : Obj) : (w.alloc o).heap[w.heap.size]? = some o := by show (w.heap.push o)[w.heap.size]? = some o; simp
/-- A block that nobody knows of. -/
theorem Sim.junk {E : Env} {S : St} {w : World} (h : Sim E S w) (o : Obj) : Sim E S (w.alloc o) := by
  refine ⟨fun b cs e => ?_, fun i k e => ?_, h.dis, h.fresh⟩
  · rw [heap_alloc_lt _ _ (h.H_lt e)]; exact h.hH b cs e
  · obtain ⟨l, a, b, c⟩ := h.live i k e
    exact ⟨l, a, b, c.mono (Env.le_refl _) (heap_alloc_lt _ _ c.lt)⟩
theorem Evo.junk (E : Env) (S : St) (w : World) (o : Obj) : Evo E S w E S (w.alloc o) :=
  ⟨rfl, rfl, rfl, by simp, fun b hb _ => heap_alloc_lt _ _ hb, fun id l k hk hl => .inr ⟨id, l, k, hk, hl, rfl⟩, Env.le_refl _, fun _ _ e => .inl e⟩
/-- A new block under a new number. -/
theorem Sim.alloc {E : Env} {S : St} {w : World} (h : Sim E S w) {i : Nat} (hi : E.ρ i = none) (hn : i < S.n) (o : Obj) (l : Loc) (hl : l.b = w.heap.size) (k : Blk)
    (hk : BlkOk E (w.alloc o) l k) : Sim (E.loc i l) (S.set i (some k)) (w.alloc o) := by
  have hle : E.le (E.loc i l) := Env.le_loc hi
  refine ⟨fun b cs e => ?_, fun j kj e => ?_, fun a b ka kb la lb ha hb hne ea eb => ?_, fun j hj => ?_⟩
  · have e' : E.H b = some cs := e
    rw [heap_alloc_lt _ _ (h.H_lt e')]; exact h.hH b cs e'
  · by_cases hji : j = i
    · subst hji
      simp only [St.set, updF_same, Option.some.injEq] at e
      subst e
      exact ⟨l, by simp [Env.loc], by show E.H l.b = none; rw [hl]; exact h.H_none (Nat.le_refl _), hk.mono hle rfl⟩
    · simp only [St.set, updF, hji, if_false] at e
      obtain ⟨l', a, b, c⟩ := h.live j kj e
      exact ⟨l', by simp [Env.loc, updF, hji, a], b, c.mono hle (heap_alloc_lt _ _ c.lt)⟩
  · simp only [St.set, updF] at ha hb
    simp only [Env.loc, updF] at ea eb
    split at ea
    · split at eb
      · omega
      · rename_i h1 h2
        simp only [h2, if_false] at hb
        cases ea
        obtain ⟨l', a1, b1, c1⟩ := h.live b kb hb
        rw [a1] at eb; cases eb
        have := c1.lt; omega
    · rename_i h1
      simp only [h1, if_false] at ha
      split at eb
      · cases eb
        obtain ⟨l', a1, b1, c1⟩ := h.live a ka ha
        rw [a1] at ea; cases ea
        have := c1.lt; omega
      · rename_i h2
        simp only [h2, if_false] at hb
        exact h.dis a b ka kb la lb ha hb hne ea eb
  · have : S.n ≤ j := hj
    simp only [Env.loc, updF]
    rw [if_neg (by omega)]; exact h.fresh j this
theorem Evo.alloc {E : Env} {S : St} {w : World} {i : Nat} (hi : E.ρ i = none) (o : Obj) (l : Loc) (hl : l.b = w.heap.size) (k : Blk) :
    Evo E S w (E.loc i l) (S.set i (some k)) (w.alloc o) := by
  refine ⟨rfl, rfl, rfl, by simp, fun b hb _ => heap_alloc_lt _ _ hb, fun id l' k' hk' hl' => ?_, Env.le_loc hi, fun _ _ e => .inl e⟩
  simp only [St.set, updF] at hk'
  simp only [Env.loc, updF] at hl'
  split at hl'
  · cases hl'; left; omega
  · rename_i h1; simp only [h1, if_false] at hk'
    right; exact ⟨id, l', k', hk', hl', rfl⟩
/-- One live block's content is another one. -/
theorem Sim.write {E : Env} {S : St} {w w' : World} (h : Sim E S w) {i : Nat} {k k' : Blk} (hg : S.g i = some k) {l : Loc} (hl : E.ρ i = some l)
    (hw : ∀ b, b ≠ l.b → w'.heap[b]? = w.heap[b]?) (hk : BlkOk E w' l k') : Sim E (S.set i (some k')) w' := by
  obtain ⟨l0, e0, hN, ok0⟩ := h.live i k hg
  rw [hl] at e0; cases e0
  refine ⟨fun b cs e => ?_, fun j kj e => ?_, fun a b ka kb la lb ha hb hne ea eb => ?_, fun j hj => h.fresh j hj⟩
  · rw [hw b (by intro e1; subst e1; rw [hN] at e; cases e)]; exact h.hH b cs e
  · by_cases hji : j = i
    · subst hji
      simp only [St.set, updF_same, Option.some.injEq] at e
      subst e
      exact ⟨l, hl, hN, hk⟩
    · simp only [St.set, updF, hji, if_false] at e
      obtain ⟨l', a, b, c⟩ := h.live j kj e
      exact ⟨l', a, b, c.mono (Env.le_refl _) (hw _ (h.dis j i kj k l' l e hg hji a hl))⟩
  · have ha' : ∃ x, S.g a = some x := by
      by_cases e : a = i
      · subst e; exact ⟨k, hg⟩
      · simp only [St.set, updF, e, if_false] at ha; exact ⟨ka, ha⟩
    have hb' : ∃ x, S.g b = some x := by
      by_cases e : b = i
      · subst e; exact ⟨k, hg⟩
      · simp only [St.set, updF, e, if_false] at hb; exact ⟨kb, hb⟩
    obtain ⟨xa, ha'⟩ := ha'
    obtain ⟨xb, hb'⟩ := hb'
    exact h.dis a b xa xb la lb ha' hb' hne ea eb
theorem Evo.write {E : Env} {S : St} {w w' : World} {i : Nat} {k k' : Blk} (hg : S.g i = some k) {l : Loc} (hl : E.ρ i = some l)
    (ho : w'.os = w.os) (ht : w'.tape = w.tape) (hp : w'.output = w.output) (hs : w'.heap.size = w.heap.size)
    (hw : ∀ b, b ≠ l.b → w'.heap[b]? = w.heap[b]?) : Evo E S w E (S.set i (some k')) w' := by
  refine ⟨ho, ht, hp, by omega, fun b hb hn => hw b (fun e => hn i l k hg hl e.symm), fun id l' kk hk hl' => ?_, Env.le_refl _, fun _ _ e => .inl e⟩
  right
  by_cases e : id = i
  · subst e; rw [hl] at hl'; cases hl'; exact ⟨id, l, k, hg, hl, rfl⟩
  · simp only [St.set, updF, e, if_false] at hk; exact ⟨id, l', kk, hk, hl', rfl⟩
/-- A block is forgotten. -/
theorem Sim.drop {E : Env} {S : St} {w : World} (h : Sim E S w) (g' : Nat → Option Blk) (hg : ∀ i k, g' i = some k → S.g i = some k) (n' : Nat) (hn : S.n ≤ n') : Sim E ⟨n', g'⟩ w :=
  ⟨h.hH, fun i k e => h.live i k (hg i k e), fun i j ki kj li lj a b => h.dis i j ki kj li lj (hg _ _ a) (hg _ _ b), fun i hi => h.fresh i (Nat.le_trans hn hi)⟩
theorem Evo.drop {E : Env} {S : St} {w : World} (g' : Nat → Option Blk) (hg : ∀ i k, g' i = some k → S.g i = some k) (n' : Nat) : Evo E S w E ⟨n', g'⟩ w :=
  ⟨rfl, rfl, rfl, Nat.le_refl _, fun _ _ _ => rfl, fun id l k hk hl => .inr ⟨id, l, k, hg _ _ hk, hl, rfl⟩, Env.le_refl _, fun _ _ e => .inl e⟩
/-- A block is frozen: it is forgotten, and never written again. -/
theorem Sim.frz {E : Env} {S : St} {w : World} (h : Sim E S w) {i : Nat} {k : Blk} (hg : S.g i = some k) {l : Loc} (hl : E.ρ i = some l) {cs : Array Value} {el : TypeId} {fz : Nat × Nat}
    (hw : w.heap[l.b]? = some (.cells cs el fz)) : Sim (E.frz l.b cs) (S.set i none) w := by
  obtain ⟨l0, e0, hN, ok0⟩ := h.live i k hg
  rw [hl] at e0; cases e0
  have hle : E.le (E.frz l.b cs) := Env.le_frz hN
  refine ⟨fun b cs' e => ?_, fun j kj e => ?_, fun a b ka kb la lb ha hb hne ea eb => ?_, fun j hj => h.fresh j hj⟩
  · simp only [Env.frz, updF] at e
    split at e
    · cases e; subst_vars; exact ⟨el, fz, hw⟩
    · exact h.hH b cs' e
  · have hji : j ≠ i := by intro e1; subst e1; simp [St.set] at e
    simp only [St.set, updF, hji, if_false] at e
    obtain ⟨l', a, b, c⟩ := h.live j kj e
    refine ⟨l', a, ?_, c.mono hle rfl⟩
    simp only [Env.frz, updF]
    rw [if_neg (h.dis j i kj k l' l e hg hji a hl)]; exact b
  · have hai : a ≠ i := by intro e1; subst e1; simp [St.set] at ha
    have hbi : b ≠ i := by intro e1; subst e1; simp [St.set] at hb
    simp only [St.set, updF, hai, hbi, if_false] at ha hb
    exact h.dis a b ka kb la lb ha hb hne ea eb
theorem Evo.frz {E : Env} {S : St} {w : World} (h : Sim E S w) {i : Nat} {k : Blk} (hg : S.g i = some k) {l : Loc} (hl : E.ρ i = some l) (cs : Array Value) :
    Evo E S w (E.frz l.b cs) (S.set i none) w := by
  obtain ⟨l0, e0, hN, ok0⟩ := h.live i k hg
  rw [hl] at e0; cases e0
  refine ⟨rfl, rfl, rfl, Nat.le_refl _, fun _ _ _ => rfl, fun id l' kk hk hl' => .inr ?_, Env.le_frz hN, fun b cs e => ?_⟩
  rotate_left
  · simp only [Env.frz, updF] at e
    split at e
    · subst_vars; exact .inr (.inr ⟨i, l, k, hg, hl, rfl⟩)
    · exact .inl e
  have hai : id ≠ i := by intro e1; subst e1; simp [St.set] at hk
  simp only [St.set, updF, hai, if_false] at hk
  exact ⟨id, l', kk, hk, hl', rfl⟩
/-- A block's number is another one, its place too (within the block). -/
theorem Sim.rename {E : Env} {S : St} {w w' : World} (h : Sim E S w) {i j : Nat} {k k' : Blk} (hg : S.g i = some k) {l l' : Loc} (hl : E.ρ i = some l) (hj : E.ρ j = none) (hn : j < S.n) (hb : l'.b = l.b)
    (hw : ∀ b, b ≠ l.b → w'.heap[b]? = w.heap[b]?) (hk : BlkOk E w' l' k') : Sim (E.loc j l') ((S.set i none).set j (some k')) w' := by
  obtain ⟨l0, e0, hN, ok0⟩ := h.live i k hg
  rw [hl] at e0; cases e0
  have hle : E.le (E.loc j l') := Env.le_loc hj
  have hij : i ≠ j := by intro e; subst e; rw [hl] at hj; cases hj
  refine ⟨fun b cs e => ?_, fun m km e => ?_, fun a b ka kb la lb ha hb' hne ea eb => ?_, fun m hm => ?_⟩
  · have e' : E.H b = some cs := e
    rw [hw b (by intro e1; subst e1; rw [hN] at e'; cases e')]; exact h.hH b cs e'
  · by_cases hmj : m = j
    · subst hmj
      simp only [St.set, updF_same, Option.some.injEq] at e
      subst e
      exact ⟨l', by simp [Env.loc], by show E.H l'.b = none; rw [hb]; exact hN, hk.mono hle rfl⟩
    · have hmi : m ≠ i := by intro e1; subst e1; simp [St.set, updF, hmj] at e
      simp only [St.set, updF, hmj, hmi, if_false] at e
      obtain ⟨l2, a, b, c⟩ := h.live m km e
      exact ⟨l2, by simp [Env.loc, updF, hmj, a], b, c.mono hle (hw _ (h.dis m i km k l2 l e hg hmi a hl))⟩
  · -- different numbers, different blocks
    have key : ∀ m km lm, ((S.set i none).set j (some k')).g m = some km → (E.loc j l').ρ m = some lm → m ≠ j → S.g m = some km ∧ E.ρ m = some lm ∧ m ≠ i := by
      intro m km lm h1 h2 hmj
      have hmi : m ≠ i := by intro e1; subst e1; simp [St.set, updF, hmj] at h1
      simp only [St.set, updF, hmj, hmi, if_false] at h1
      simp only [Env.loc, updF, hmj, if_false] at h2
      exact ⟨h1, h2, hmi⟩
    by_cases haj : a = j
    · subst haj
      obtain ⟨q1, q2, q3⟩ := key b kb lb hb' eb (fun e => hne e.symm)
      simp only [Env.loc, updF_same, Option.some.injEq] at ea
      subst ea
      rw [hb]; exact fun e => h.dis b i kb k lb l q1 hg q3 q2 hl e.symm
    · obtain ⟨p1, p2, p3⟩ := key a ka la ha ea haj
      by_cases hbj : b = j
      · subst hbj
        simp only [Env.loc, updF_same, Option.some.injEq] at eb
        subst eb
        rw [hb]; exact h.dis a i ka k la l p1 hg p3 p2 hl
      · obtain ⟨q1, q2, q3⟩ := key b kb lb hb' eb hbj
        exact h.dis a b ka kb la lb p1 q1 hne p2 q2
  · have : S.n ≤ m := hm
    simp only [Env.loc, updF]
    rw [if_neg (by omega)]; exact h.fresh m this
theorem Evo.rename {E : Env} {S : St} {w w' : World} {i j : Nat} {k k' : Blk} (hg : S.g i = some k) {l l' : Loc} (hl : E.ρ i = some l) (hj : E.ρ j = none) (hb : l'.b = l.b)
    (ho : w'.os = w.os) (ht : w'.tape = w.tape) (hp : w'.output = w.output) (hs : w'.heap.size = w.heap.size)
    (hw : ∀ b, b ≠ l.b → w'.heap[b]? = w.heap[b]?) : Evo E S w (E.loc j l') ((S.set i none).set j (some k')) w' := by
  refine ⟨ho, ht, hp, by omega, fun b _ hn => hw b (fun e => hn i l k hg hl e.symm), fun id l2 kk hk hl2 => .inr ?_, Env.le_loc hj, fun _ _ e => .inl e⟩
  by_cases hmj : id = j
  · subst hmj
    simp only [Env.loc, updF_same, Option.some.injEq] at hl2
    subst hl2
    exact ⟨i, l, k, hg, hl, hb.symm⟩
  · have hmi : id ≠ i := by intro e1; subst e1; simp [St.set, updF, hmj] at hk
    simp only [St.set, updF, hmj, hmi, if_false] at hk
    simp only [Env.loc, updF, hmj, if_false] at hl2
    exact ⟨id, l2, kk, hk, hl2, rfl⟩
end Go.Rf

