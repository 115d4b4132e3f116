import Derived.Calls
import Derived.Orders
import Derived.Below
import Derived.Laws.World
import Derived.Laws.CopyRow
import Derived.Laws.AppendOwn
import Derived.Laws.MakeOwn
import Derived.Laws.NewBlocks
import Derived.Great.FillDense
import Derived.Laws.Entries
/-
  Rf, part 1: abstract values, what a machine's value stands for, and when an abstract state stands for a world.
  Own work; imports the kit.
-/
set_option linter.unusedVariables false
namespace Go.Rf
open Go.RowKit

inductive AV where
  | junk
  | v (x : Value)
  | sl (t : Bool) (xs : List AV)
  | own (id off len : Nat)
  | ptr (id ix c : Nat)
  | eptr (x : AV) (c : Nat)
  | agg (cs : List AV)
  | tup (vs : List AV)
  | clo (f : FuncId) (first cap : List AV)
  | mp (id : Nat)
  deriving Inhabited
def scalar : Value → Bool
  | .agg _ | .tuple _ | .slice .. | .pointer (some _) | .map (some _) | .func .. => false
  | _ => true
namespace AV
def cells : AV → List AV
  | agg cs => cs
  | x => [x]
def atom : AV → Bool
  | junk | agg _ | tup _ => false
  | _ => true
def solid : AV → Bool
  | junk | tup _ => false
  | _ => true
end AV

def flat (xs : List AV) : List AV := xs.flatMap AV.cells
structure Loc where
  b : Nat
  o : Nat
  es : Nat
  tot : Nat
structure Env where
  ρ : Nat → Option Loc
  H : Nat → Option (Array Value)
def Env.le (E E' : Env) : Prop := (∀ id l, E.ρ id = some l → E'.ρ id = some l) ∧ ∀ b cs, E.H b = some cs → E'.H b = some cs
theorem Env.le_refl (E : Env) : E.le E := ⟨fun _ _ h => h, fun _ _ h => h⟩
theorem Env.le_trans {A B C : Env} (h : A.le B) (k : B.le C) : A.le C := ⟨fun i l e => k.1 i l (h.1 i l e), fun b c e => k.2 b c (h.2 b c e)⟩
inductive Rep (E : Env) : AV → Value → Prop
  | junk (x : Value) : Rep E .junk x
  | v (x : Value) (h : scalar x = true) : Rep E (.v x) x
  | sl0 (t : Bool) (A : Option Addr) (cap : Nat) (h : t = true → cap = 0) : Rep E (.sl t []) (.slice A 0 cap)
  | sl (t : Bool) (xs : List AV) (b o cap : Nat) (cs : Array Value) (es : Nat) (f : Nat → Value) (hne : 0 < xs.length) (hb : E.H b = some cs)
      (hes : ∀ x ∈ xs, x.cells.length = es) (hcap : xs.length ≤ cap) (ht : t = true → cap = xs.length) (hat : ∀ y ∈ flat xs, y.atom = true)
      (hc : ∀ k, k < (flat xs).length → cs[o + k]? = some (f k)) (hr : ∀ k (h : k < (flat xs).length), Rep E ((flat xs)[k]) (f k)) :
      Rep E (.sl t xs) (.slice (some ⟨b, o, none⟩) xs.length cap)
  | own (id off len : Nat) (A : Option Addr) (cap : Nat) (l : Loc) (hl : E.ρ id = some l) (hlen : len ≤ cap)
      (hA : cap ≠ 0 → A = some ⟨l.b, l.o + off * l.es, none⟩ ∧ off + cap ≤ l.tot) : Rep E (.own id off len) (.slice A len cap)
  | ptr (id ix c : Nat) (l : Loc) (hl : E.ρ id = some l) : Rep E (.ptr id ix c) (.pointer (some ⟨l.b, l.o + ix * l.es + c, none⟩))
  | eptr (x : AV) (c b o : Nat) (cs : Array Value) (f : Nat → Value) (hb : E.H b = some cs) (hat : ∀ y ∈ x.cells, y.atom = true)
      (hc : ∀ k, k < x.cells.length → cs[o + k]? = some (f k)) (hr : ∀ k (h : k < x.cells.length), Rep E (x.cells[k]) (f k)) :
      Rep E (.eptr x c) (.pointer (some ⟨b, o + c, none⟩))
  | agg (cs : List AV) (vs : Array Value) (hn : vs.size = cs.length) (hat : ∀ y ∈ cs, y.atom = true)
      (hr : ∀ j (h : j < cs.length), Rep E (cs[j]) (vs.getD j undef)) : Rep E (.agg cs) (.agg vs)
  | tup (cs : List AV) (vs : Array Value) (hn : vs.size = cs.length)
      (hr : ∀ j (h : j < cs.length), Rep E (cs[j]) (vs.getD j undef)) : Rep E (.tup cs) (.tuple vs)
  | clo (f : FuncId) (first cap : List AV) (fv cv : Array Value) (hn : fv.size = first.length) (hm : cv.size = cap.length)
      (hf : ∀ j (h : j < first.length), Rep E (first[j]) (fv.getD j undef)) (hc : ∀ j (h : j < cap.length), Rep E (cap[j]) (cv.getD j undef)) :
      Rep E (.clo f first cap) (.func (.func f) fv cv)
  | mp (id : Nat) (l : Loc) (hl : E.ρ id = some l) : Rep E (.mp id) (.map (some l.b))
theorem Rep.mono {E E' : Env} (h : E.le E') {x : AV} {v : Value} (r : Rep E x v) : Rep E' x v := by
  induction r with
  | junk x => exact .junk x
  | v x hx => exact .v x hx
  | sl0 t A cap ht => exact .sl0 t A cap ht
  | sl t xs b o cap cs es f hne hb hes hcap ht hat hc hr ih => exact .sl t xs b o cap cs es f hne (h.2 _ _ hb) hes hcap ht hat hc ih
  | own id off len A cap l hl hlen hA => exact .own id off len A cap l (h.1 _ _ hl) hlen hA
  | ptr id ix c l hl => exact .ptr id ix c l (h.1 _ _ hl)
  | eptr x c b o cs f hb hat hc hr ih => exact .eptr x c b o cs f (h.2 _ _ hb) hat hc ih
  | agg cs vs hn hat hr ih => exact .agg cs vs hn hat ih
  | tup cs vs hn hr ih => exact .tup cs vs hn ih
  | clo f first cap fv cv hn hm hf hc ih1 ih2 => exact .clo f first cap fv cv hn hm ih1 ih2
  | mp id l hl => exact .mp id l (h.1 _ _ hl)
/-- Values without numbers of blocks. -/
inductive Closed : AV → Prop
  | v (x : Value) : Closed (.v x)
  | sl (t : Bool) (xs : List AV) (h : ∀ y ∈ xs, Closed y) : Closed (.sl t xs)
  | eptr (x : AV) (c : Nat) (h : Closed x) : Closed (.eptr x c)
  | agg (cs : List AV) (h : ∀ y ∈ cs, Closed y) : Closed (.agg cs)
  | tup (cs : List AV) (h : ∀ y ∈ cs, Closed y) : Closed (.tup cs)
  | clo (f : FuncId) (a b : List AV) (ha : ∀ y ∈ a, Closed y) (hb : ∀ y ∈ b, Closed y) : Closed (.clo f a b)
theorem Closed.cells {x : AV} (h : Closed x) : ∀ y ∈ x.cells, Closed y := by
  cases h with
  | agg cs h => exact h
  | v x => intro y hy; simp [AV.cells] at hy; subst hy; exact .v x
  | sl t xs h => intro y hy; simp [AV.cells] at hy; subst hy; exact .sl t xs h
  | eptr x c h => intro y hy; simp [AV.cells] at hy; subst hy; exact .eptr x c h
  | tup cs h => intro y hy; simp [AV.cells] at hy; subst hy; exact .tup cs h
  | clo f a b ha hb => intro y hy; simp [AV.cells] at hy; subst hy; exact .clo f a b ha hb
theorem Closed.flat {xs : List AV} (h : ∀ y ∈ xs, Closed y) : ∀ y ∈ flat xs, Closed y := by
  intro y hy
  simp [Rf.flat] at hy
  obtain ⟨x, hx, hyx⟩ := hy
  exact (h x hx).cells y hyx
theorem Rep.closed {E E' : Env} (hH : ∀ b cs, E.H b = some cs → E'.H b = some cs) {x : AV} {v : Value} (r : Rep E x v) (hx : Closed x) : Rep E' x v := by
  induction r with
  | junk x => cases hx
  | v x h => exact .v x h
  | sl0 t A cap ht => exact .sl0 t A cap ht
  | sl t xs b o cap cs es f hne hb hes hcap ht hat hc hr ih =>
    cases hx with
    | sl _ _ h => exact .sl t xs b o cap cs es f hne (hH _ _ hb) hes hcap ht hat hc (fun k hk => ih k hk (Closed.flat h _ (List.getElem_mem hk)))
  | own id off len A cap l hl hlen hA => cases hx
  | ptr id ix c l hl => cases hx
  | eptr x c b o cs f hb hat hc hr ih =>
    cases hx with
    | eptr _ _ h => exact .eptr x c b o cs f (hH _ _ hb) hat hc (fun k hk => ih k hk (h.cells _ (List.getElem_mem hk)))
  | agg cs vs hn hat hr ih => cases hx with | agg _ h => exact .agg cs vs hn hat (fun j hj => ih j hj (h _ (List.getElem_mem hj)))
  | tup cs vs hn hr ih => cases hx with | tup _ h => exact .tup cs vs hn (fun j hj => ih j hj (h _ (List.getElem_mem hj)))
  | clo f first cap fv cv hn hm hf hc ih1 ih2 =>
    cases hx with
    | clo _ _ _ ha hb => exact .clo f first cap fv cv hn hm (fun j hj => ih1 j hj (ha _ (List.getElem_mem hj))) (fun j hj => ih2 j hj (hb _ (List.getElem_mem hj)))
  | mp id l hl => cases hx
theorem Rep.loose {E : Env} {t : Bool} {xs : List AV} {v : Value} (r : Rep E (.sl t xs) v) : Rep E (.sl false xs) v := by
  cases r with
  | sl0 _ A cap ht => exact .sl0 false A cap (by simp)
  | sl _ _ b o cap cs es f hne hb hes hcap ht hat hc hr => exact .sl false xs b o cap cs es f hne hb hes hcap (by simp) hat hc hr
/-- Nothing of a value that stands for an atom is a struct. -/
theorem Rep.atom_cells {E : Env} {x : AV} {v : Value} (r : Rep E x v) (h : x.atom = true) : v.cells = #[v] ∧ (∀ cs, v ≠ .agg cs) ∧ ∀ cs, v ≠ .tuple cs := by
  cases r <;> simp_all [AV.atom, Value.cells]
  rename_i h
  cases v <;> simp_all [scalar]
theorem Rep.cells {E : Env} {x : AV} {v : Value} (r : Rep E x v) (h : x.solid = true) :
    v.cells.size = x.cells.length ∧ ∀ j (hj : j < x.cells.length), Rep E (x.cells[j]) (v.cells.getD j undef) := by
  by_cases ha : x.atom = true
  · have hv := (r.atom_cells ha).1
    have hx : x.cells = [x] := by cases x <;> simp_all [AV.atom, AV.cells]
    rw [hv, hx]
    refine ⟨rfl, fun j hj => ?_⟩
    simp at hj
    subst hj
    exact r
  · cases r with
    | agg cs vs hn hat hr => exact ⟨hn, hr⟩
    | junk x => simp [AV.solid] at h
    | tup cs vs hn hr => simp [AV.solid] at h
    | _ => simp [AV.atom] at ha
theorem Rep.cells_atom {E : Env} {x : AV} {v : Value} (r : Rep E x v) (h : x.solid = true) : ∀ y ∈ x.cells, y.atom = true := by
  by_cases ha : x.atom = true
  · have hx : x.cells = [x] := by cases x <;> simp_all [AV.atom, AV.cells]
    rw [hx]; simpa using ha
  · cases r with
    | agg cs vs hn hat hr => exact hat
    | junk x => simp [AV.solid] at h
    | tup cs vs hn hr => simp [AV.solid] at h
    | _ => simp [AV.atom] at ha
/-! ### the state -/
inductive Blk where
  | arr (es : Nat) (xs : List AV)
  | map (ents : List (AV × AV))
structure St where
  n : Nat
  g : Nat → Option Blk
def BlkOk (E : Env) (w : World) (l : Loc) : Blk → Prop
  | .arr es xs => l.es = es ∧ xs.length ≤ l.tot ∧ (∀ x ∈ xs, x.cells.length = es) ∧ (∀ y ∈ flat xs, y.atom = true) ∧
      ∃ cs el, w.heap[l.b]? = some (.cells cs el (0, 0)) ∧ l.o + l.tot * es ≤ cs.size ∧
        ∀ k (h : k < (flat xs).length), ∃ v, cs[l.o + k]? = some v ∧ Rep E ((flat xs)[k]) v
  | .map ents => ∃ es clock, w.heap[l.b]? = some (.map es clock) ∧ es.size = ents.length ∧
      ∀ k (h : k < ents.length), ∃ e, es[k]? = some e ∧ Rep E (ents[k].1) e.key ∧ Rep E (ents[k].2) e.val
structure Sim (E : Env) (S : St) (w : World) : Prop where
  hH : ∀ b cs, E.H b = some cs → ∃ el fz, w.heap[b]? = some (.cells cs el fz)
  live : ∀ id k, S.g id = some k → ∃ l, E.ρ id = some l ∧ E.H l.b = none ∧ BlkOk E w l k
  dis : ∀ i j ki kj li lj, S.g i = some ki → S.g j = some kj → i ≠ j → E.ρ i = some li → E.ρ j = some lj → li.b ≠ lj.b
  fresh : ∀ id, S.n ≤ id → E.ρ id = none
structure Evo (E : Env) (S : St) (w : World) (E' : Env) (S' : St) (w' : World) : Prop where
  os : w'.os = w.os
  tape : w'.tape = w.tape
  output : w'.output = w.output
  size : w.heap.size ≤ w'.heap.size
  keep : ∀ b, b < w.heap.size → (∀ id l k, S.g id = some k → E.ρ id = some l → l.b ≠ b) → w'.heap[b]? = w.heap[b]?
  grow : ∀ id l k, S'.g id = some k → E'.ρ id = some l → w.heap.size ≤ l.b ∨ ∃ id0 l0 k0, S.g id0 = some k0 ∧ E.ρ id0 = some l0 ∧ l0.b = l.b
  le : E.le E'
  hsub : ∀ b cs, E'.H b = some cs → E.H b = some cs ∨ w.heap.size ≤ b ∨ ∃ id0 l0 k0, S.g id0 = some k0 ∧ E.ρ id0 = some l0 ∧ l0.b = b
theorem Evo.refl (E : Env) (S : St) (w : World) : Evo E S w E S w :=
  ⟨rfl, rfl, rfl, Nat.le_refl _, fun _ _ _ => rfl, fun id l k hk hl => .inr ⟨id, l, k, hk, hl, rfl⟩, Env.le_refl _, fun _ _ e => .inl e⟩
theorem Evo.trans {E1 E2 E3 : Env} {S1 S2 S3 : St} {w1 w2 w3 : World} (h : Evo E1 S1 w1 E2 S2 w2) (k : Evo E2 S2 w2 E3 S3 w3) : Evo E1 S1 w1 E3 S3 w3 := by
  refine ⟨k.os.trans h.os, k.tape.trans h.tape, k.output.trans h.output, Nat.le_trans h.size k.size, ?_, ?_, Env.le_trans h.le k.le, ?_⟩
  · intro b hb hn
    rw [k.keep b (Nat.lt_of_lt_of_le hb h.size) ?_, h.keep b hb hn]
    intro id l kk hk hl e
    rcases h.grow id l kk hk hl with hge | ⟨id0, l0, k0, a1, a2, a3⟩
    · omega
    · exact hn id0 l0 k0 a1 a2 (a3.trans e)
  · intro id l kk hk hl
    rcases k.grow id l kk hk hl with hge | ⟨id0, l0, k0, a1, a2, a3⟩
    · left; exact Nat.le_trans h.size hge
    · rcases h.grow id0 l0 k0 a1 a2 with hge | ⟨id1, l1, k1, b1, b2, b3⟩
      · left; omega
      · right; exact ⟨id1, l1, k1, b1, b2, b3.trans a3⟩
  · intro b cs e
    rcases k.hsub b cs e with e1 | hge | ⟨id0, l0, k0, a1, a2, a3⟩
    · exact h.hsub b cs e1
    · right; left; exact Nat.le_trans h.size hge
    · rcases h.grow id0 l0 k0 a1 a2 with hge | ⟨id1, l1, k1, b1, b2, b3⟩
      · right; left; omega
      · right; right; exact ⟨id1, l1, k1, b1, b2, b3.trans a3⟩
theorem BlkOk.mono {E E' : Env} {w w' : World} {l : Loc} {k : Blk} (h : BlkOk E w l k) (hE : E.le E') (hw : w'.heap[l.b]? = w.heap[l.b]?) : BlkOk E' w' l k := by
  cases k with
  | arr es xs =>
    obtain ⟨h1, h2, h3, h4, cs, el, h5, h6, h7⟩ := h
    exact ⟨h1, h2, h3, h4, cs, el, by rw [hw, h5], h6, fun k hk => let ⟨v, a, b⟩ := h7 k hk; ⟨v, a, b.mono hE⟩⟩
  | map ents =>
    obtain ⟨es, clock, h1, h2, h3⟩ := h
    exact ⟨es, clock, by rw [hw, h1], h2, fun k hk => let ⟨e, a, b, c⟩ := h3 k hk; ⟨e, a, b.mono hE, c.mono hE⟩⟩
theorem BlkOk.lt {E : Env} {w : World} {l : Loc} {k : Blk} (h : BlkOk E w l k) : l.b < w.heap.size := by
  cases k with
  | arr es xs => obtain ⟨_, _, _, _, cs, el, h5, _⟩ := h; exact (Array.getElem?_eq_some_iff.mp h5).1
  | map ents => obtain ⟨es, clock, h1, _⟩ := h; exact (Array.getElem?_eq_some_iff.mp h1).1
end Go.Rf


set_option linter.unusedVariables false
namespace Go.Rf
open Go.RowKit

def updF {α : Type} (f : Nat → α) (i : Nat) (x : α) : Nat → α := fun j => if j = i then x else f j
@[simp] theorem updF_same {α : Type} (f : Nat → α) (i : Nat) (x : α) : updF f i x i = x := by simp [updF]
def St.set (S : St) (i : Nat) (k : Option Blk) : St := ⟨S.n, updF S.g i k⟩
def Env.loc (E : Env) (i : Nat) (l : Loc) : Env := ⟨updF E.ρ i (some l), E.H⟩
def Env.frz (E : Env) (b : Nat) (cs : Array Value) : Env := ⟨E.ρ, updF E.H b (some cs)⟩
theorem Sim.H_lt {E : Env} {S : St} {w : World} (h : Sim E S w) {b : Nat} {cs : Array Value} (e : E.H b = some cs) : b < w.heap.size := by
  obtain ⟨el, fz, h1⟩ := h.hH b cs e
  exact (Array.getElem?_eq_some_iff.mp h1).1
theorem Sim.H_none {E : Env} {S : St} {w : World} (h : Sim E S w) {b : Nat} (hb : w.heap.size ≤ b) : E.H b = none := by
  cases e : E.H b with
  | none => rfl
  | some cs => have := h.H_lt e; omega
theorem Sim.rho {E : Env} {S : St} {w : World} (h : Sim E S w) {i : Nat} {k : Blk} (e : S.g i = some k) : ∃ l, E.ρ i = some l := by
  obtain ⟨l, h1, _⟩ := h.live i k e; exact ⟨l, h1⟩
theorem Sim.lt {E : Env} {S : St} {w : World} (h : Sim E S w) {i : Nat} {k : Blk} (e : S.g i = some k) : i < S.n := by
  obtain ⟨l, h1⟩ := h.rho e
  rcases Nat.lt_or_ge i S.n with h2 | h2
  · exact h2
  · rw [h.fresh i h2] at h1; cases h1
theorem Env.le_loc {E : Env} {i : Nat} {l : Loc} (h : E.ρ i = none) : E.le (E.loc i l) := by
  refine ⟨fun j k e => ?_, fun _ _ e => e⟩
  simp only [Env.loc, updF]
  split
  · subst_vars; rw [h] at e; cases e
  · exact e
theorem Env.le_frz {E : Env} {b : Nat} {cs : Array Value} (h : E.H b = none) : E.le (E.frz b cs) := by
  refine ⟨fun _ _ e => e, fun c k e => ?_⟩
  simp only [Env.frz, updF]
  split
  · subst_vars; rw [h] at e; cases e
  · exact e
/-- A world whose draws alone differ, or that is otherwise the same memory. -/
theorem Sim.drew {E : Env} {S : St} {w : World} (h : Sim E S w) : Sim E S w.drew :=
  ⟨h.hH, fun i k e => let ⟨l, a, b, c⟩ := h.live i k e; ⟨l, a, b, c.mono (Env.le_refl _) rfl⟩, h.dis, h.fresh⟩
theorem Evo.drew (E : Env) (S : St) (w : World) : Evo E S w E S w.drew :=
  ⟨rfl, rfl, rfl, Nat.le_refl _, fun _ _ _ => rfl, fun id l k hk hl => .inr ⟨id, l, k, hk, hl, rfl⟩, Env.le_refl _, fun _ _ e => .inl e⟩
theorem heap_alloc_lt (w : World) (o : Obj) {b : Nat} (h : b < w.heap.size) : (w.alloc o).heap[b]? = w.heap[b]? := by
  show (w.heap.push o)[b]? = _
  rw [Array.getElem?_push, if_neg (by omega)]
theorem heap_alloc_new (w : World) (o : Obj) : (w.alloc o).heap[w.heap.size]? = some o := by show (w.heap.push o)[w.heap.size]? = some o; simp
/-- A block that nobody knows of. -/
theorem Sim.junk {E : Env} {S : St} {w : World} (h : Sim E S w) (o : Obj) : Sim E S (w.alloc o) := by
  refine ⟨fun b cs e => ?_, fun i k e => ?_, h.dis, h.fresh⟩
  · rw [heap_alloc_lt _ _ (h.H_lt e)]; exact h.hH b cs e
  · obtain ⟨l, a, b, c⟩ := h.live i k e
    exact ⟨l, a, b, c.mono (Env.le_refl _) (heap_alloc_lt _ _ c.lt)⟩
theorem Evo.junk (E : Env) (S : St) (w : World) (o : Obj) : Evo E S w E S (w.alloc o) :=
  ⟨rfl, rfl, rfl, by simp, fun b hb _ => heap_alloc_lt _ _ hb, fun id l k hk hl => .inr ⟨id, l, k, hk, hl, rfl⟩, Env.le_refl _, fun _ _ e => .inl e⟩
/-- A new block under a new number. -/
theorem Sim.alloc {E : Env} {S : St} {w : World} (h : Sim E S w) {i : Nat} (hi : E.ρ i = none) (hn : i < S.n) (o : Obj) (l : Loc) (hl : l.b = w.heap.size) (k : Blk)
    (hk : BlkOk E (w.alloc o) l k) : Sim (E.loc i l) (S.set i (some k)) (w.alloc o) := by
  have hle : E.le (E.loc i l) := Env.le_loc hi
  refine ⟨fun b cs e => ?_, fun j kj e => ?_, fun a b ka kb la lb ha hb hne ea eb => ?_, fun j hj => ?_⟩
  · have e' : E.H b = some cs := e
    rw [heap_alloc_lt _ _ (h.H_lt e')]; exact h.hH b cs e'
  · by_cases hji : j = i
    · subst hji
      simp only [St.set, updF_same, Option.some.injEq] at e
      subst e
      exact ⟨l, by simp [Env.loc], by show E.H l.b = none; rw [hl]; exact h.H_none (Nat.le_refl _), hk.mono hle rfl⟩
    · simp only [St.set, updF, hji, if_false] at e
      obtain ⟨l', a, b, c⟩ := h.live j kj e
      exact ⟨l', by simp [Env.loc, updF, hji, a], b, c.mono hle (heap_alloc_lt _ _ c.lt)⟩
  · simp only [St.set, updF] at ha hb
    simp only [Env.loc, updF] at ea eb
    split at ea
    · split at eb
      · omega
      · rename_i h1 h2
        simp only [h2, if_false] at hb
        cases ea
        obtain ⟨l', a1, b1, c1⟩ := h.live b kb hb
        rw [a1] at eb; cases eb
        have := c1.lt; omega
    · rename_i h1
      simp only [h1, if_false] at ha
      split at eb
      · cases eb
        obtain ⟨l', a1, b1, c1⟩ := h.live a ka ha
        rw [a1] at ea; cases ea
        have := c1.lt; omega
      · rename_i h2
        simp only [h2, if_false] at hb
        exact h.dis a b ka kb la lb ha hb hne ea eb
  · have : S.n ≤ j := hj
    simp only [Env.loc, updF]
    rw [if_neg (by omega)]; exact h.fresh j this
theorem Evo.alloc {E : Env} {S : St} {w : World} {i : Nat} (hi : E.ρ i = none) (o : Obj) (l : Loc) (hl : l.b = w.heap.size) (k : Blk) :
    Evo E S w (E.loc i l) (S.set i (some k)) (w.alloc o) := by
  refine ⟨rfl, rfl, rfl, by simp, fun b hb _ => heap_alloc_lt _ _ hb, fun id l' k' hk' hl' => ?_, Env.le_loc hi, fun _ _ e => .inl e⟩
  simp only [St.set, updF] at hk'
  simp only [Env.loc, updF] at hl'
  split at hl'
  · cases hl'; left; omega
  · rename_i h1; simp only [h1, if_false] at hk'
    right; exact ⟨id, l', k', hk', hl', rfl⟩
/-- One live block's content is another one. -/
theorem Sim.write {E : Env} {S : St} {w w' : World} (h : Sim E S w) {i : Nat} {k k' : Blk} (hg : S.g i = some k) {l : Loc} (hl : E.ρ i = some l)
    (hw : ∀ b, b ≠ l.b → w'.heap[b]? = w.heap[b]?) (hk : BlkOk E w' l k') : Sim E (S.set i (some k')) w' := by
  obtain ⟨l0, e0, hN, ok0⟩ := h.live i k hg
  rw [hl] at e0; cases e0
  refine ⟨fun b cs e => ?_, fun j kj e => ?_, fun a b ka kb la lb ha hb hne ea eb => ?_, fun j hj => h.fresh j hj⟩
  · rw [hw b (by intro e1; subst e1; rw [hN] at e; cases e)]; exact h.hH b cs e
  · by_cases hji : j = i
    · subst hji
      simp only [St.set, updF_same, Option.some.injEq] at e
      subst e
      exact ⟨l, hl, hN, hk⟩
    · simp only [St.set, updF, hji, if_false] at e
      obtain ⟨l', a, b, c⟩ := h.live j kj e
      exact ⟨l', a, b, c.mono (Env.le_refl _) (hw _ (h.dis j i kj k l' l e hg hji a hl))⟩
  · have ha' : ∃ x, S.g a = some x := by
      by_cases e : a = i
      · subst e; exact ⟨k, hg⟩
      · simp only [St.set, updF, e, if_false] at ha; exact ⟨ka, ha⟩
    have hb' : ∃ x, S.g b = some x := by
      by_cases e : b = i
      · subst e; exact ⟨k, hg⟩
      · simp only [St.set, updF, e, if_false] at hb; exact ⟨kb, hb⟩
    obtain ⟨xa, ha'⟩ := ha'
    obtain ⟨xb, hb'⟩ := hb'
    exact h.dis a b xa xb la lb ha' hb' hne ea eb
theorem Evo.write {E : Env} {S : St} {w w' : World} {i : Nat} {k k' : Blk} (hg : S.g i = some k) {l : Loc} (hl : E.ρ i = some l)
    (ho : w'.os = w.os) (ht : w'.tape = w.tape) (hp : w'.output = w.output) (hs : w'.heap.size = w.heap.size)
    (hw : ∀ b, b ≠ l.b → w'.heap[b]? = w.heap[b]?) : Evo E S w E (S.set i (some k')) w' := by
  refine ⟨ho, ht, hp, by omega, fun b hb hn => hw b (fun e => hn i l k hg hl e.symm), fun id l' kk hk hl' => ?_, Env.le_refl _, fun _ _ e => .inl e⟩
  right
  by_cases e : id = i
  · subst e; rw [hl] at hl'; cases hl'; exact ⟨id, l, k, hg, hl, rfl⟩
  · simp only [St.set, updF, e, if_false] at hk; exact ⟨id, l', kk, hk, hl', rfl⟩
/-- A block is forgotten. -/
theorem Sim.drop {E : Env} {S : St} {w : World} (h : Sim E S w) (g' : Nat → Option Blk) (hg : ∀ i k, g' i = some k → S.g i = some k) (n' : Nat) (hn : S.n ≤ n') : Sim E ⟨n', g'⟩ w :=
  ⟨h.hH, fun i k e => h.live i k (hg i k e), fun i j ki kj li lj a b => h.dis i j ki kj li lj (hg _ _ a) (hg _ _ b), fun i hi => h.fresh i (Nat.le_trans hn hi)⟩
theorem Evo.drop {E : Env} {S : St} {w : World} (g' : Nat → Option Blk) (hg : ∀ i k, g' i = some k → S.g i = some k) (n' : Nat) : Evo E S w E ⟨n', g'⟩ w :=
  ⟨rfl, rfl, rfl, Nat.le_refl _, fun _ _ _ => rfl, fun id l k hk hl => .inr ⟨id, l, k, hg _ _ hk, hl, rfl⟩, Env.le_refl _, fun _ _ e => .inl e⟩
/-- A block is frozen: it is forgotten, and never written again. -/
theorem Sim.frz {E : Env} {S : St} {w : World} (h : Sim E S w) {i : Nat} {k : Blk} (hg : S.g i = some k) {l : Loc} (hl : E.ρ i = some l) {cs : Array Value} {el : TypeId} {fz : Nat × Nat}
    (hw : w.heap[l.b]? = some (.cells cs el fz)) : Sim (E.frz l.b cs) (S.set i none) w := by
  obtain ⟨l0, e0, hN, ok0⟩ := h.live i k hg
  rw [hl] at e0; cases e0
  have hle : E.le (E.frz l.b cs) := Env.le_frz hN
  refine ⟨fun b cs' e => ?_, fun j kj e => ?_, fun a b ka kb la lb ha hb hne ea eb => ?_, fun j hj => h.fresh j hj⟩
  · simp only [Env.frz, updF] at e
    split at e
    · cases e; subst_vars; exact ⟨el, fz, hw⟩
    · exact h.hH b cs' e
  · have hji : j ≠ i := by intro e1; subst e1; simp [St.set] at e
    simp only [St.set, updF, hji, if_false] at e
    obtain ⟨l', a, b, c⟩ := h.live j kj e
    refine ⟨l', a, ?_, c.mono hle rfl⟩
    simp only [Env.frz, updF]
    rw [if_neg (h.dis j i kj k l' l e hg hji a hl)]; exact b
  · have hai : a ≠ i := by intro e1; subst e1; simp [St.set] at ha
    have hbi : b ≠ i := by intro e1; subst e1; simp [St.set] at hb
    simp only [St.set, updF, hai, hbi, if_false] at ha hb
    exact h.dis a b ka kb la lb ha hb hne ea eb
theorem Evo.frz {E : Env} {S : St} {w : World} (h : Sim E S w) {i : Nat} {k : Blk} (hg : S.g i = some k) {l : Loc} (hl : E.ρ i = some l) (cs : Array Value) :
    Evo E S w (E.frz l.b cs) (S.set i none) w := by
  obtain ⟨l0, e0, hN, ok0⟩ := h.live i k hg
  rw [hl] at e0; cases e0
  refine ⟨rfl, rfl, rfl, Nat.le_refl _, fun _ _ _ => rfl, fun id l' kk hk hl' => .inr ?_, Env.le_frz hN, fun b cs e => ?_⟩
  rotate_left
  · simp only [Env.frz, updF] at e
    split at e
    · subst_vars; exact .inr (.inr ⟨i, l, k, hg, hl, rfl⟩)
    · exact .inl e
  have hai : id ≠ i := by intro e1; subst e1; simp [St.set] at hk
  simp only [St.set, updF, hai, if_false] at hk
  exact ⟨id, l', kk, hk, hl', rfl⟩
/-- A block's number is another one, its place too (within the block). -/
theorem Sim.rename {E : Env} {S : St} {w w' : World} (h : Sim E S w) {i j : Nat} {k k' : Blk} (hg : S.g i = some k) {l l' : Loc} (hl : E.ρ i = some l) (hj : E.ρ j = none) (hn : j < S.n) (hb : l'.b = l.b)
    (hw : ∀ b, b ≠ l.b → w'.heap[b]? = w.heap[b]?) (hk : BlkOk E w' l' k') : Sim (E.loc j l') ((S.set i none).set j (some k')) w' := by
  obtain ⟨l0, e0, hN, ok0⟩ := h.live i k hg
  rw [hl] at e0; cases e0
  have hle : E.le (E.loc j l') := Env.le_loc hj
  have hij : i ≠ j := by intro e; subst e; rw [hl] at hj; cases hj
  refine ⟨fun b cs e => ?_, fun m km e => ?_, fun a b ka kb la lb ha hb' hne ea eb => ?_, fun m hm => ?_⟩
  · have e' : E.H b = some cs := e
    rw [hw b (by intro e1; subst e1; rw [hN] at e'; cases e')]; exact h.hH b cs e'
  · by_cases hmj : m = j
    · subst hmj
      simp only [St.set, updF_same, Option.some.injEq] at e
      subst e
      exact ⟨l', by simp [Env.loc], by show E.H l'.b = none; rw [hb]; exact hN, hk.mono hle rfl⟩
    · have hmi : m ≠ i := by intro e1; subst e1; simp [St.set, updF, hmj] at e
      simp only [St.set, updF, hmj, hmi, if_false] at e
      obtain ⟨l2, a, b, c⟩ := h.live m km e
      exact ⟨l2, by simp [Env.loc, updF, hmj, a], b, c.mono hle (hw _ (h.dis m i km k l2 l e hg hmi a hl))⟩
  · -- different numbers, different blocks
    have key : ∀ m km lm, ((S.set i none).set j (some k')).g m = some km → (E.loc j l').ρ m = some lm → m ≠ j → S.g m = some km ∧ E.ρ m = some lm ∧ m ≠ i := by
      intro m km lm h1 h2 hmj
      have hmi : m ≠ i := by intro e1; subst e1; simp [St.set, updF, hmj] at h1
      simp only [St.set, updF, hmj, hmi, if_false] at h1
      simp only [Env.loc, updF, hmj, if_false] at h2
      exact ⟨h1, h2, hmi⟩
    by_cases haj : a = j
    · subst haj
      obtain ⟨q1, q2, q3⟩ := key b kb lb hb' eb (fun e => hne e.symm)
      simp only [Env.loc, updF_same, Option.some.injEq] at ea
      subst ea
      rw [hb]; exact fun e => h.dis b i kb k lb l q1 hg q3 q2 hl e.symm
    · obtain ⟨p1, p2, p3⟩ := key a ka la ha ea haj
      by_cases hbj : b = j
      · subst hbj
        simp only [Env.loc, updF_same, Option.some.injEq] at eb
        subst eb
        rw [hb]; exact h.dis a i ka k la l p1 hg p3 p2 hl
      · obtain ⟨q1, q2, q3⟩ := key b kb lb hb' eb hbj
        exact h.dis a b ka kb la lb p1 q1 hne p2 q2
  · have : S.n ≤ m := hm
    simp only [Env.loc, updF]
    rw [if_neg (by omega)]; exact h.fresh m this
theorem Evo.rename {E : Env} {S : St} {w w' : World} {i j : Nat} {k k' : Blk} (hg : S.g i = some k) {l l' : Loc} (hl : E.ρ i = some l) (hj : E.ρ j = none) (hb : l'.b = l.b)
    (ho : w'.os = w.os) (ht : w'.tape = w.tape) (hp : w'.output = w.output) (hs : w'.heap.size = w.heap.size)
    (hw : ∀ b, b ≠ l.b → w'.heap[b]? = w.heap[b]?) : Evo E S w (E.loc j l') ((S.set i none).set j (some k')) w' := by
  refine ⟨ho, ht, hp, by omega, fun b _ hn => hw b (fun e => hn i l k hg hl e.symm), fun id l2 kk hk hl2 => .inr ?_, Env.le_loc hj, fun _ _ e => .inl e⟩
  by_cases hmj : id = j
  · subst hmj
    simp only [Env.loc, updF_same, Option.some.injEq] at hl2
    subst hl2
    exact ⟨i, l, k, hg, hl, hb.symm⟩
  · have hmi : id ≠ i := by intro e1; subst e1; simp [St.set, updF, hmj] at hk
    simp only [St.set, updF, hmj, hmi, if_false] at hk
    simp only [Env.loc, updF, hmj, if_false] at hl2
    exact ⟨id, l2, kk, hk, hl2, rfl⟩
end Go.Rf


set_option linter.unusedVariables false
namespace Go.Rf
open Go.RowKit

theorem AV.cells_atom {x : AV} (h : x.atom = true) : x.cells = [x] := by cases x <;> simp_all [AV.atom, AV.cells]
theorem length_flat {xs : List AV} {es : Nat} (h : ∀ x ∈ xs, x.cells.length = es) : (flat xs).length = xs.length * es := by
  induction xs with
  | nil => simp [flat]
  | cons x xs ih =>
    have h1 := h x (by simp)
    have h2 := ih (fun y hy => h y (by simp [hy]))
    simp only [flat, List.flatMap_cons, List.length_append, List.length_cons] at h2 ⊢
    rw [h1, h2, Nat.add_mul, Nat.one_mul, Nat.add_comm]
theorem flat_append (xs ys : List AV) : flat (xs ++ ys) = flat xs ++ flat ys := by simp [flat]
/-- The cells of element i are those from i * es on. -/
theorem flat_at {xs : List AV} {es : Nat} (h : ∀ x ∈ xs, x.cells.length = es) (i : Nat) (hi : i < xs.length) (j : Nat) (hj : j < (xs[i]).cells.length) :
    ∃ hk : i * es + j < (flat xs).length, (flat xs)[i * es + j] = (xs[i]).cells[j] := by
  induction xs generalizing i with
  | nil => simp at hi
  | cons x xs ih =>
    have hx := h x (by simp)
    have hxs : ∀ y ∈ xs, y.cells.length = es := fun y hy => h y (by simp [hy])
    have hl := length_flat h
    cases i with
    | zero =>
      have hj' : j < x.cells.length := hj
      refine ⟨by rw [hl]; simp only [List.length_cons, Nat.zero_mul, Nat.zero_add, Nat.add_mul, Nat.one_mul]; omega, ?_⟩
      have : flat (x :: xs) = x.cells ++ flat xs := by simp [flat]
      simp only [this, Nat.zero_mul, Nat.zero_add, List.getElem_cons_zero]
      rw [List.getElem_append_left hj']
    | succ i =>
      obtain ⟨hk, e⟩ := ih hxs i (by simpa using hi) (by simpa using hj)
      have h2 : flat (x :: xs) = x.cells ++ flat xs := by simp [flat]
      have hadd : (i + 1) * es + j = x.cells.length + (i * es + j) := by rw [hx, Nat.add_mul, Nat.one_mul]; omega
      refine ⟨by rw [h2, List.length_append, hadd]; omega, ?_⟩
      simp only [h2, hadd, List.getElem_cons_succ]
      rw [List.getElem_append_right (by omega)]
      simpa using e
theorem flat_drop {xs : List AV} {es : Nat} (h : ∀ x ∈ xs, x.cells.length = es) (m : Nat) : flat (xs.drop m) = (flat xs).drop (m * es) := by
  induction xs generalizing m with
  | nil => simp [flat]
  | cons x xs ih =>
    cases m with
    | zero => simp
    | succ m =>
      have hx := h x (by simp)
      have h2 : flat (x :: xs) = x.cells ++ flat xs := by simp [flat]
      rw [List.drop_succ_cons, ih (fun y hy => h y (by simp [hy])), h2, Nat.add_mul, Nat.one_mul, Nat.add_comm, ← hx, List.drop_append]
      simp
theorem flat_take {xs : List AV} {es : Nat} (h : ∀ x ∈ xs, x.cells.length = es) (m : Nat) : flat (xs.take m) = (flat xs).take (m * es) := by
  induction xs generalizing m with
  | nil => simp [flat]
  | cons x xs ih =>
    cases m with
    | zero => simp [flat]
    | succ m =>
      have hx := h x (by simp)
      have h2 : flat (x :: xs) = x.cells ++ flat xs := by simp [flat]
      have h3 : flat (x :: xs.take m) = x.cells ++ flat (xs.take m) := by simp [flat]
      rw [List.take_succ_cons, h3, ih (fun y hy => h y (by simp [hy])), h2, Nat.add_mul, Nat.one_mul, Nat.add_comm, ← hx, List.take_append]
      simp [List.take_of_length_le]
/-- What a slice reads as, at a world: elements of es cells. -/
structure Reads (E : Env) (w : World) (es : Nat) (ys : List AV) (A : Option Addr) : Prop where
  hes : ∀ x ∈ ys, x.cells.length = es
  hat : ∀ y ∈ flat ys, y.atom = true
  at_ : ys ≠ [] → ∃ b o cs el fz, A = some ⟨b, o, none⟩ ∧ w.heap[b]? = some (.cells cs el fz) ∧ ∀ k (h : k < (flat ys).length), ∃ v, cs[o + k]? = some v ∧ Rep E ((flat ys)[k]) v
theorem Reads.nil (E : Env) (w : World) (es : Nat) (A : Option Addr) : Reads E w es [] A := ⟨by simp, by simp [flat], by simp⟩
theorem reads_sl {E : Env} {S : St} {w : World} (h : Sim E S w) {t : Bool} {xs : List AV} {v : Value} (r : Rep E (.sl t xs) v) {es : Nat} (hes : ∀ x ∈ xs, x.cells.length = es) :
    ∃ A cap, v = .slice A xs.length cap ∧ xs.length ≤ cap ∧ (t = true → cap = xs.length) ∧ Reads E w es xs A := by
  cases r with
  | sl0 _ A cap ht => exact ⟨A, cap, rfl, by simp, by simpa using ht, .nil _ _ _ _⟩
  | sl _ _ b o cap cs es' f hne hb hes' hcap ht hat hc hr =>
    obtain ⟨el, fz, hw⟩ := h.hH b cs hb
    exact ⟨_, cap, rfl, hcap, ht, hes, hat, fun _ => ⟨b, o, cs, el, fz, rfl, hw, fun k hk => ⟨f k, hc k hk, hr k hk⟩⟩⟩
theorem BlkOk.reads {E : Env} {w : World} {l : Loc} {es : Nat} {xs : List AV} (h : BlkOk E w l (.arr es xs)) (off len : Nat) (hl : off + len ≤ xs.length) :
    Reads E w es ((xs.drop off).take len) (some ⟨l.b, l.o + off * es, none⟩) := by
  obtain ⟨h1, h2, h3, h4, cs, el, h5, h6, h7⟩ := h
  have hd : ∀ x ∈ xs.drop off, x.cells.length = es := fun x hx => h3 x (List.mem_of_mem_drop hx)
  have hf : flat ((xs.drop off).take len) = ((flat xs).drop (off * es)).take (len * es) := by rw [flat_take hd, flat_drop h3]
  refine ⟨fun x hx => hd x (List.mem_of_mem_take hx), fun y hy => ?_, fun _ => ⟨l.b, l.o + off * es, cs, el, (0, 0), rfl, h5, fun k hk => ?_⟩⟩
  · rw [hf] at hy; exact h4 y (List.mem_of_mem_drop (List.mem_of_mem_take hy))
  · have hk' : k < (((flat xs).drop (off * es)).take (len * es)).length := by rw [← hf]; exact hk
    have hk2 : off * es + k < (flat xs).length := by
      simp only [List.length_take, List.length_drop] at hk'
      omega
    obtain ⟨v, a, b⟩ := h7 (off * es + k) hk2
    refine ⟨v, by rw [Nat.add_assoc]; exact a, ?_⟩
    have : (flat ((xs.drop off).take len))[k] = (flat xs)[off * es + k] := by
      simp only [hf, List.getElem_take, List.getElem_drop]
    rw [this]; exact b
theorem reads_own {E : Env} {S : St} {w : World} (h : Sim E S w) {id off len : Nat} {v : Value} (r : Rep E (.own id off len) v) {es : Nat} {xs : List AV} (hg : S.g id = some (.arr es xs))
    (hl : off + len ≤ xs.length) : ∃ A cap, v = .slice A len cap ∧ len ≤ cap ∧ Reads E w es ((xs.drop off).take len) A := by
  cases r with
  | own _ _ _ A cap l hρ hlen hA =>
    obtain ⟨l', e, hN, ok⟩ := h.live id _ hg
    rw [hρ] at e; cases e
    refine ⟨A, cap, rfl, hlen, ?_⟩
    by_cases hc : cap = 0
    · have : len = 0 := by omega
      subst this
      simp only [List.take_zero]
      exact .nil _ _ _ _
    · obtain ⟨hA1, hA2⟩ := hA hc
      have hes : l.es = es := ok.1
      rw [hA1, hes]
      exact ok.reads off len hl
theorem Reads.elem {E : Env} {w : World} {es : Nat} {ys : List AV} {A : Option Addr} (h : Reads E w es ys A) (i : Nat) (hi : i < ys.length) :
    ∃ b o cs el fz, A = some ⟨b, o, none⟩ ∧ w.heap[b]? = some (.cells cs el fz) ∧ ∀ j (hj : j < (ys[i]).cells.length), ∃ v, cs[o + (i * es + j)]? = some v ∧ Rep E ((ys[i]).cells[j]) v := by
  obtain ⟨b, o, cs, el, fz, h1, h2, h3⟩ := h.at_ (by intro e; subst e; simp at hi)
  refine ⟨b, o, cs, el, fz, h1, h2, fun j hj => ?_⟩
  obtain ⟨hk, e⟩ := flat_at h.hes i hi j hj
  obtain ⟨v, a, c⟩ := h3 _ hk
  rw [e] at c
  exact ⟨v, a, c⟩
theorem Rep.oneCell {E : Env} {x : AV} {v : Value} (r : Rep E x v) (h : x.atom = true) : v.oneCell' = true := by
  obtain ⟨_, h2, h3⟩ := r.atom_cells h
  cases v <;> simp_all [Value.oneCell']
theorem cell_of_heap {w : World} {b o : Nat} {cs : Array Value} {el : TypeId} {fz : Nat × Nat} (h : w.heap[b]? = some (.cells cs el fz)) : w.cell? ⟨b, o, none⟩ = cs[o]? := by
  simp [World.cell?, h]
theorem addr_add (b o n : Nat) : (⟨b, o, none⟩ : Addr).add n = ⟨b, o + n, none⟩ := by unfold Addr.add; split <;> simp_all
/-- All cells of a slice that is read, at once. -/
theorem Reads.first {P : Program} {E : Env} {w : World} {es : Nat} {ys : List AV} {A : Option Addr} (h : Reads E w es ys A) (cap : Nat) :
    ∃ news : List Value, (Builtin.firstCells es ys.length (.slice A ys.length cap)).run P w = .ok news.toArray w ∧ news.length = ys.length * es ∧
      (∀ u ∈ news, u.oneCell' = true) ∧ ∀ k (hk : k < (flat ys).length), ∃ v, news[k]? = some v ∧ Rep E ((flat ys)[k]) v := by
  by_cases hy : ys = []
  · subst hy
    refine ⟨[], ?_, by simp, by simp, by simp [flat]⟩
    cases A <;> simp [Builtin.firstCells, loadCells, loadCellsFrom]
  · obtain ⟨b, o, cs, el, fz, h1, h2, h3⟩ := h.at_ hy
    subst h1
    have hlen := length_flat h.hes
    let news := (List.range (ys.length * es)).map fun k => cs.getD (o + k) undef
    have hn : ∀ j v, news[j]? = some v → w.cell? ((⟨b, o, none⟩ : Addr).add j) = some v := by
      intro j v hv
      have hj : j < ys.length * es := by
        have := (List.getElem?_eq_some_iff.mp hv).1
        simpa [news] using this
      obtain ⟨v', a, _⟩ := h3 j (by omega)
      rw [addr_add, cell_of_heap h2, a]
      simp [news, hj, Array.getD_eq_getD_getElem?, a] at hv
      rw [hv]
    have hl : news.length = ys.length * es := by simp [news]
    refine ⟨news, ?_, hl, ?_, fun k hk => ?_⟩
    · simp only [Builtin.firstCells]
      have := run_loadCells_list (P := P) w ⟨b, o, none⟩ news hn
      rw [hl] at this; exact this
    · intro u hu
      obtain ⟨k, hk, e⟩ := List.mem_iff_getElem.mp hu
      have hk' : k < (flat ys).length := by rw [hlen]; omega
      obtain ⟨v, a, r⟩ := h3 k hk'
      have : u = v := by
        rw [← e]; simp [news, Array.getD_eq_getD_getElem?, a]
      subst this
      exact r.oneCell (h.hat _ (List.getElem_mem hk'))
    · obtain ⟨v, a, r⟩ := h3 k hk
      have hk2 : k < ys.length * es := by omega
      exact ⟨v, by simp [news, hk2, Array.getD_eq_getD_getElem?, a], r⟩
end Go.Rf


set_option linter.unusedVariables false
namespace Go.Rf
open Go.RowKit

theorem flat_get {xs : List AV} {es : Nat} (h : ∀ x ∈ xs, x.cells.length = es) (k : Nat) (hk : k < (flat xs).length) :
    ∃ (hi : k / es < xs.length) (hj : k % es < (xs[k / es]).cells.length), (flat xs)[k] = (xs[k / es]).cells[k % es] := by
  have hl := length_flat h
  have hes : 0 < es := by
    rcases Nat.eq_zero_or_pos es with e | e
    · subst e; rw [hl] at hk; simp at hk
    · exact e
  have hi : k / es < xs.length := by
    rw [Nat.div_lt_iff_lt_mul hes]; omega
  have hj : k % es < (xs[k / es]).cells.length := by rw [h _ (List.getElem_mem hi)]; exact Nat.mod_lt _ hes
  obtain ⟨hk', e⟩ := flat_at h (k / es) hi (k % es) hj
  refine ⟨hi, hj, ?_⟩
  rw [← e]
  congr 1
  rw [Nat.mul_comm]; exact (Nat.div_add_mod k es).symm
/-- x's cells put into y from c on. -/
def putc (y : AV) (c : Nat) (x : AV) : AV :=
  if x.cells.length = y.cells.length then x else .agg (y.cells.take c ++ x.cells ++ y.cells.drop (c + x.cells.length))
theorem putc_length {y x : AV} {c : Nat} (h : c + x.cells.length ≤ y.cells.length) : (putc y c x).cells.length = y.cells.length := by
  unfold putc
  split
  · assumption
  · show (y.cells.take c ++ x.cells ++ y.cells.drop (c + x.cells.length)).length = _
    simp only [List.length_append, List.length_take, List.length_drop]; omega
theorem putc_get {y x : AV} {c : Nat} (h : c + x.cells.length ≤ y.cells.length) (j : Nat) (hj : j < (putc y c x).cells.length) :
    (putc y c x).cells[j] = if hc : c ≤ j ∧ j < c + x.cells.length then x.cells[j - c]'(by omega) else y.cells[j]'(by rw [putc_length h] at hj; exact hj) := by
  have hl := putc_length h
  have hj' : j < y.cells.length := by rw [← hl]; exact hj
  by_cases e : x.cells.length = y.cells.length
  · have hc : c = 0 := by omega
    subst hc
    have hp : putc y 0 x = x := by unfold putc; rw [if_pos e]
    rw [dif_pos ⟨by omega, by omega⟩]
    simp only [hp, Nat.sub_zero]
  · have hp : (putc y c x).cells = y.cells.take c ++ x.cells ++ y.cells.drop (c + x.cells.length) := by unfold putc; rw [if_neg e]; rfl
    simp only [hp]
    simp only [List.getElem_append, List.length_append, List.length_take, List.getElem_take, List.getElem_drop]
    have hm : min c y.cells.length = c := by omega
    simp only [hm]
    split
    · split
      · rw [dif_neg (by omega)]
      · rw [dif_pos (by omega)]
    · rw [dif_neg (by omega)]
      congr 1; omega
theorem mem_set_cells {xs : List AV} {es ix : Nat} (h : ∀ x ∈ xs, x.cells.length = es) {z : AV} (hz : z.cells.length = es) : ∀ x ∈ xs.set ix z, x.cells.length = es := by
  intro x hx
  rcases List.mem_or_eq_of_mem_set hx with h1 | h1
  · exact h x h1
  · rw [h1]; exact hz
/-- The cells behind a store into element ix, from c on. -/
theorem flat_set {xs : List AV} {es : Nat} (h : ∀ x ∈ xs, x.cells.length = es) (ix : Nat) (hix : ix < xs.length) {x : AV} {c : Nat} (hc : c + x.cells.length ≤ es) :
    ∃ hl : (flat (xs.set ix (putc xs[ix] c x))).length = (flat xs).length, ∀ k (hk : k < (flat xs).length),
      (flat (xs.set ix (putc xs[ix] c x)))[k]'(by omega) = if hc : ix * es + c ≤ k ∧ k < ix * es + c + x.cells.length then x.cells[k - (ix * es + c)]'(by omega) else (flat xs)[k] := by
  have hy : (xs[ix]).cells.length = es := h _ (List.getElem_mem hix)
  have hz : (putc xs[ix] c x).cells.length = es := by rw [putc_length (by omega)]; exact hy
  have h' := mem_set_cells (ix := ix) h hz
  have hl : (flat (xs.set ix (putc xs[ix] c x))).length = (flat xs).length := by rw [length_flat h', length_flat h, List.length_set]
  refine ⟨hl, fun k hk => ?_⟩
  obtain ⟨hi, hj, e⟩ := flat_get h' k (by omega)
  obtain ⟨hi2, hj2, e2⟩ := flat_get h k hk
  have hes : 0 < es := by
    rcases Nat.eq_zero_or_pos es with e | e
    · subst e; rw [length_flat h] at hk; simp at hk
    · exact e
  have hdm : es * (k / es) + k % es = k := Nat.div_add_mod k es
  have hmod : k % es < es := Nat.mod_lt _ hes
  rw [e, e2]
  by_cases hki : k / es = ix
  · have hdm2 : ix * es + k % es = k := by rw [← hki, Nat.mul_comm]; exact hdm
    have e3 : (xs.set ix (putc xs[ix] c x))[k / es] = putc xs[ix] c x := by simp [hki]
    have hjj : k % es < (putc xs[ix] c x).cells.length := by rw [hz]; exact hmod
    have : ((xs.set ix (putc xs[ix] c x))[k / es]).cells[k % es] = (putc xs[ix] c x).cells[k % es]'hjj := by simp only [e3]
    rw [this, putc_get (by omega)]
    by_cases hin : c ≤ k % es ∧ k % es < c + x.cells.length
    · rw [dif_pos hin, dif_pos (by omega)]
      congr 1; omega
    · rw [dif_neg hin, dif_neg (by omega)]
      simp only [hki]
  · have hne : ¬ (ix * es + c ≤ k ∧ k < ix * es + c + x.cells.length) := by
      intro ⟨a, b⟩
      apply hki
      exact Nat.div_eq_of_lt_le (by omega) (by rw [Nat.add_mul, Nat.one_mul]; omega)
    rw [dif_neg hne]
    have e3 : (xs.set ix (putc xs[ix] c x))[k / es] = xs[k / es] := by
      rw [List.getElem_set_ne (by omega)]
    simp only [e3]
/-- 'Instr.fill' at one part. -/
theorem fill_part (place : Nat → Option (Nat × Nat)) (cells : Array Value) (i : Nat) (v : Value) (rest : List (Nat × Value)) (off size : Nat) (hp : place i = some (off, size)) (hs : v.cells.size = size) (ho : off + size ≤ cells.size) :
    ∃ cells', Instr.fill place cells ((i, v) :: rest) = Instr.fill place cells' rest ∧ cells'.size = cells.size ∧
      ∀ k, cells'[k]? = if off ≤ k ∧ k < off + size then v.cells[k - off]? else cells[k]? := by
  refine ⟨v.cells.zipIdx.foldl (fun cs (x : Value × Nat) => cs.setIfInBounds (off + x.2) x.1) cells, ?_, ?_⟩
  · simp only [Instr.fill, hp]
    rw [if_neg (by simp; omega)]
  · have h := Great.foldl_set off v.cells.toList 0 cells
    have e : v.cells.zipIdx.foldl (fun cs (x : Value × Nat) => cs.setIfInBounds (off + x.2) x.1) cells = (v.cells.toList.zipIdx 0).foldl (fun cs (x : Value × Nat) => cs.setIfInBounds (off + x.2) x.1) cells := by
      rw [← Array.foldl_toList, Array.toList_zipIdx]
    rw [e]
    refine ⟨h.1, fun k => ?_⟩
    rw [h.2 k]
    simp only [Nat.add_zero, Array.length_toList, Array.getElem?_toList]
    by_cases hk : off ≤ k ∧ k < off + size
    · rw [if_pos (by omega), if_pos hk]
    · rw [if_neg (by omega), if_neg hk]
end Go.Rf


set_option linter.unusedVariables false
set_option linter.unusedSimpArgs false
namespace Go.Rf
open Go.RowKit

abbrev AF := Nat → AV
def AF.put (a : AF) (d : Option Nat) (x : AV) : AF := match d with | some d => updF a d x | none => a
structure RepF (E : Env) (n : Nat) (a : AF) (act : Act) : Prop where
  size : act.tmps.size = n
  defers : act.defers = []
  at_ : ∀ t, Rep E (a t) (act.tmps.getD t undef)
theorem RepF.mono {E E' : Env} {n : Nat} {a : AF} {act : Act} (h : RepF E n a act) (hE : E.le E') : RepF E' n a act := ⟨h.size, h.defers, fun t => (h.at_ t).mono hE⟩
theorem RepF.put {E : Env} {n : Nat} {a : AF} {act : Act} (h : RepF E n a act) {dst : Option Nat} (hd : ∀ d, dst = some d → d < n) {x : AV} {v : Value} (r : Rep E x v) :
    RepF E n (a.put dst x) (act.put dst v) := by
  cases dst with
  | none => exact h
  | some d =>
    have hdn := hd d rfl
    refine ⟨by simp [Act.put, h.size], h.defers, fun t => ?_⟩
    simp only [AF.put, updF, Act.put]
    have hs := h.size
    by_cases e : t = d
    · subst e; rw [if_pos rfl]; simp [Array.getD_eq_getD_getElem?, Array.getElem?_setIfInBounds, hs, hdn]; exact r
    · rw [if_neg e]
      have := h.at_ t
      simp only [Array.getD_eq_getD_getElem?] at this ⊢
      rw [Array.getElem?_setIfInBounds_ne (by omega)]; exact this
/-- Operands. -/
inductive Opd where
  | t (i : Nat)
  | c (x : AV)
def Opd.ev (a : AF) : Opd → AV
  | .t i => a i
  | .c x => x
def atomOf : Value → Option AV
  | .slice none 0 0 => some (.sl true [])
  | .func (.func f) ⟨[]⟩ ⟨[]⟩ => some (.clo f [] [])
  | x => if scalar x then some (.v x) else none
def ofVal : Value → Option AV
  | .agg cs => (cs.toList.mapM atomOf).map .agg
  | x => atomOf x
def ofOperand : Operand → Option Opd
  | .tmp t => some (.t t)
  | .const v => (ofVal v).map .c
  | .func f => some (.c (.clo f [] []))
  | .global _ => none
theorem atomOf_ok {E : Env} {x : Value} {y : AV} (h : atomOf x = some y) : Rep E y x ∧ y.atom = true ∧ Closed y := by
  unfold atomOf at h
  split at h
  · cases h; exact ⟨.sl0 true none 0 (by simp), rfl, .sl true [] (by simp)⟩
  · cases h; exact ⟨.clo _ [] [] _ _ rfl rfl (by simp) (by simp), rfl, .clo _ _ _ (by simp) (by simp)⟩
  · split at h
    · rename_i hs; cases h; exact ⟨.v _ hs, rfl, .v _⟩
    · cases h
theorem mapM_atomOf {E : Env} : ∀ {l : List Value} {ys : List AV}, l.mapM atomOf = some ys → ys.length = l.length ∧ (∀ y ∈ ys, y.atom = true ∧ Closed y) ∧ ∀ j (h : j < ys.length), Rep E (ys[j]) (l.getD j undef)
  | [], ys, h => by simp at h; subst h; simp
  | x :: l, ys, h => by
    simp only [List.mapM_cons, Option.bind_eq_bind, Option.bind_eq_some_iff, Option.pure_def, Option.some.injEq] at h
    obtain ⟨y, hy, zs, hz, rfl⟩ := h
    obtain ⟨h1, h2, h3⟩ := mapM_atomOf (E := E) hz
    obtain ⟨g1, g2, g3⟩ := atomOf_ok (E := E) hy
    refine ⟨by simp [h1], ?_, ?_⟩
    · intro z hz'; simp at hz'; rcases hz' with rfl | hz'
      · exact ⟨g2, g3⟩
      · exact h2 z hz'
    · intro j hj
      cases j with
      | zero => simpa using g1
      | succ j => simpa using h3 j (by simpa using hj)
theorem ofVal_ok {E : Env} {x : Value} {y : AV} (h : ofVal x = some y) : Rep E y x ∧ Closed y := by
  unfold ofVal at h
  split at h
  · rename_i cs
    simp only [Option.map_eq_some_iff] at h
    obtain ⟨ys, h1, rfl⟩ := h
    obtain ⟨a, b, c⟩ := mapM_atomOf (E := E) h1
    refine ⟨.agg ys cs (by simp [a]) (fun y hy => (b y hy).1) (fun j hj => ?_), .agg ys (fun y hy => (b y hy).2)⟩
    have := c j hj
    simpa [Array.getD_eq_getD_getElem?, List.getD_eq_getElem?_getD] using this
  · obtain ⟨a, _, b⟩ := atomOf_ok (E := E) h; exact ⟨a, b⟩
theorem ofOperand_ok {E : Env} {n : Nat} {a : AF} {act : Act} (h : RepF E n a act) {x : Operand} {y : Opd} (hx : ofOperand x = some y) : Rep E (y.ev a) (act.eval x) := by
  cases x with
  | tmp t => simp [ofOperand] at hx; subst hx; exact h.at_ t
  | const v =>
    simp only [ofOperand, Option.map_eq_some_iff] at hx
    obtain ⟨z, h1, rfl⟩ := hx
    exact (ofVal_ok h1).1
  | global g => simp [ofOperand] at hx
  | func f => simp [ofOperand] at hx; subst hx; exact .clo f [] [] _ _ rfl rfl (by simp) (by simp)
/-! ### what an operation wants -/
structure Out where
  v : Nat → AV
  up : List (Option Blk)
  nw : Option Blk
structure Eff where
  F : List Nat
  k : List Blk → Option Out
def St.setL (S : St) : List Nat → List (Option Blk) → St
  | i :: is, k :: ks => (S.set i k).setL is ks
  | _, _ => S
def St.setO (S : St) (i : Nat) : Option Blk → St
  | none => S
  | some b => S.set i (some b)
def Eff.run (e : Eff) (S : St) (nid : Nat) : Option (AV × St) :=
  match e.F.mapM S.g with
  | none => none
  | some bs => match e.k bs with
    | none => none
    | some o => some (o.v nid, (S.setL e.F o.up).setO nid o.nw)
def Eff.val (o : Option AV) : Eff := ⟨[], fun _ => o.map fun v => ⟨fun _ => v, [], none⟩⟩
def Eff.rd (id : Nat) (k : Blk → Option AV) : Eff := ⟨[id], fun | [b] => (k b).map fun v => ⟨fun _ => v, [], none⟩ | _ => none⟩
def Eff.wr (id : Nat) (k : Blk → Option Blk) : Eff := ⟨[id], fun | [b] => (k b).map fun b' => ⟨fun _ => .junk, [some b'], none⟩ | _ => none⟩
def Eff.new (o : Option (Blk × (Nat → AV))) : Eff := ⟨[], fun _ => o.map fun p => ⟨p.2, [], some p.1⟩⟩
/-- A block's number is given up for a new one. -/
def Eff.mv (id : Nat) (k : Blk → Option (Blk × (Nat → AV))) : Eff := ⟨[id], fun | [b] => (k b).map fun p => ⟨p.2, [none], some p.1⟩ | _ => none⟩
@[simp] theorem Eff.run_val (o : Option AV) (S : St) (nid : Nat) : (Eff.val o).run S nid = o.map fun v => (v, S) := by
  cases o <;> simp [Eff.run, Eff.val, St.setL, St.setO]
@[simp] theorem Eff.run_rd (id : Nat) (k : Blk → Option AV) (S : St) (nid : Nat) : (Eff.rd id k).run S nid = ((S.g id).bind k).map fun v => (v, S) := by
  cases h : S.g id with
  | none => simp [Eff.run, Eff.rd, h]
  | some b => cases h2 : k b <;> simp [Eff.run, Eff.rd, h, h2, St.setL, St.setO]
@[simp] theorem Eff.run_wr (id : Nat) (k : Blk → Option Blk) (S : St) (nid : Nat) : (Eff.wr id k).run S nid = ((S.g id).bind k).map fun b => (.junk, S.set id (some b)) := by
  cases h : S.g id with
  | none => simp [Eff.run, Eff.wr, h]
  | some b => cases h2 : k b <;> simp [Eff.run, Eff.wr, h, h2, St.setL, St.setO]
@[simp] theorem Eff.run_new (o : Option (Blk × (Nat → AV))) (S : St) (nid : Nat) : (Eff.new o).run S nid = o.map fun p => (p.2 nid, S.set nid (some p.1)) := by
  cases o <;> simp [Eff.run, Eff.new, St.setL, St.setO]
@[simp] theorem Eff.run_mv (id : Nat) (k : Blk → Option (Blk × (Nat → AV))) (S : St) (nid : Nat) :
    (Eff.mv id k).run S nid = ((S.g id).bind k).map fun p => (p.2 nid, (S.set id none).set nid (some p.1)) := by
  cases h : S.g id with
  | none => simp [Eff.run, Eff.mv, h]
  | some b => cases h2 : k b <;> simp [Eff.run, Eff.mv, h, h2, St.setL, St.setO]
/-! ### an operation's soundness -/
/-- Operations that change nothing. -/
def pureOp : Op → Bool
  | .move _ | .assign _ | .pick .. | .binOp .. | .unOp .. | .convert .. | .fieldAddr .. | .field .. | .indexAddr .. | .index .. | .load .. | .extract .. | .nilCheck .. => true
  | .call c => match c.callee with
    | .builtin .len => true
    | _ => false
  | _ => false
def OpOk (P : Program) (n : Nat) (o : Oper) (a : AF) (S : St) (nid : Nat) (v : AV) (S' : St) : Prop :=
  ∀ E w act, Sim E S w → RepF E n a act → E.ρ nid = none → nid < S.n → ∀ (K : Act → World → Prop) (Q : Exit → Act → World → Prop),
    (∀ act' w' E', Sim E' S' w' → RepF E' n (a.put o.dst v) act' → Evo E S w E' S' w' → ((pureOp o.op = true → E' = E ∧ w' = w) ∧ ∀ i, i ≠ nid → E.ρ i = none → E'.ρ i = none) → K act' w') → o.wp P act w K Q
/-- An operation that yields a value. -/
theorem OpOk.of_run {P : Program} {n : Nat} {o : Oper} {a : AF} {S : St} {nid : Nat} {v : AV} {S' : St} (hd : ∀ d, o.dst = some d → d < n)
    (h : ∀ E w act, Sim E S w → RepF E n a act → E.ρ nid = none → nid < S.n →
      ∃ val w' E', (execOp act.eval o).run P w = .ok (.value val) w' ∧ Sim E' S' w' ∧ Evo E S w E' S' w' ∧ Rep E' v val ∧ (pureOp o.op = true → E' = E ∧ w' = w) ∧ ∀ i, i ≠ nid → E.ρ i = none → E'.ρ i = none) :
    OpOk P n o a S nid v S' := by
  intro E w act hS hF hn hlt K Q hK
  obtain ⟨val, w', E', h1, h2, h3, h4, h5⟩ := h E w act hS hF hn hlt
  unfold Oper.wp
  rw [h1, Oper.upon_value]
  exact hK _ _ E' h2 ((hF.mono h3.le).put hd h4) h3 h5
theorem OpOk.of_skip {P : Program} {n : Nat} {o : Oper} {a : AF} {S : St} {nid : Nat} {S' : St} (hd : ∀ d, o.dst = some d → d < n)
    (h : ∀ E w act, Sim E S w → RepF E n a act → E.ρ nid = none → nid < S.n →
      ∃ w' E', (execOp act.eval o).run P w = .ok .skip w' ∧ Sim E' S' w' ∧ Evo E S w E' S' w' ∧ (pureOp o.op = true → E' = E ∧ w' = w) ∧ ∀ i, i ≠ nid → E.ρ i = none → E'.ρ i = none) :
    OpOk P n o a S nid .junk S' := by
  intro E w act hS hF hn hlt K Q hK
  obtain ⟨w', E', h1, h2, h3, h5⟩ := h E w act hS hF hn hlt
  unfold Oper.wp
  rw [h1, Oper.upon_skip]
  exact hK _ _ E' h2 ((hF.mono h3.le).put hd (.junk _)) h3 h5
/-- An operation that only yields a value: the state is as it was. -/
theorem OpOk.pure {P : Program} {n : Nat} {o : Oper} {a : AF} {S : St} {nid : Nat} {v : AV} (hd : ∀ d, o.dst = some d → d < n)
    (h : ∀ E w act, Sim E S w → RepF E n a act → ∃ val, (execOp act.eval o).run P w = .ok (.value val) w ∧ Rep E v val) : OpOk P n o a S nid v S :=
  .of_run hd fun E w act hS hF _ _ => let ⟨val, h1, h2⟩ := h E w act hS hF; ⟨val, w, E, h1, hS, .refl _ _ _, h2, fun _ => ⟨rfl, rfl⟩, fun _ _ e => e⟩
end Go.Rf

