/-
  Rf, part 1: abstract values, what a machine's value stands for, and when an abstract state stands for a world.
  Own work; imports the kit.
-/
import Derived.Calls
import Derived.Orders
import Derived.Below
import Derived.Laws.World
set_option linter.unusedVariables false
namespace Go.Rf
open Go.RowKit

inductive AV where
  | junk
  | v (x : Value)
  | sl (t : Bool) (xs : List AV)
  | own (id off len : Nat)
  | ptr (id ix c : Nat)
  | eptr (x : AV) (c : Nat)
  | agg (cs : List AV)
  | tup (vs : List AV)
  | clo (f : FuncId) (first cap : List AV)
  | mp (id : Nat)
  deriving Inhabited
def scalar : Value → Bool
  | .agg _ | .tuple _ | .slice .. | .pointer (some _) | .map (some _) | .func .. => false
  | _ => true
namespace AV
def cells : AV → List AV
  | agg cs => cs
  | x => [x]
def atom : AV → Bool
  | junk | agg _ | tup _ => false
  | _ => true
def solid : AV → Bool
  | junk | tup _ => false
  | _ => true
end AV

def flat (xs : List AV) : List AV := xs.flatMap AV.cells
structure Loc where
  b : Nat
  o : Nat
  es : Nat
  tot : Nat
structure Env where
  ρ : Nat → Option Loc
  H : Nat → Option (Array Value)
def Env.le (E E' : Env) : Prop := (∀ id l, E.ρ id = some l → E'.ρ id = some l) ∧ ∀ b cs, E.H b = some cs → E'.H b = some cs
theorem Env.le_refl (E : Env) : E.le E := ⟨fun _ _ h => h, fun _ _ h => h⟩
theorem Env.le_trans {A B C : Env} (h : A.le B) (k : B.le C) : A.le C := ⟨fun i l e => k.1 i l (h.1 i l e), fun b c e => k.2 b c (h.2 b c e)⟩
inductive Rep (E : Env) : AV → Value → Prop
  | junk (x : Value) : Rep E .junk x
  | v (x : Value) (h : scalar x = true) : Rep E (.v x) x
  | sl0 (t : Bool) (A : Option Addr) (cap : Nat) (h : t = true → cap = 0) : Rep E (.sl t []) (.slice A 0 cap)
  | sl (t : Bool) (xs : List AV) (b o cap : Nat) (cs : Array Value) (es : Nat) (f : Nat → Value) (hne : 0 < xs.length) (hb : E.H b = some cs)
      (hes : ∀ x ∈ xs, x.cells.length = es) (hcap : xs.length ≤ cap) (ht : t = true → cap = xs.length) (hat : ∀ y ∈ flat xs, y.atom = true)
      (hc : ∀ k, k < (flat xs).length → cs[o + k]? = some (f k)) (hr : ∀ k (h : k < (flat xs).length), Rep E ((flat xs)[k]) (f k)) :
      Rep E (.sl t xs) (.slice (some ⟨b, o, none⟩) xs.length cap)
  | own (id off len : Nat) (A : Option Addr) (cap : Nat) (l : Loc) (hl : E.ρ id = some l) (hlen : len ≤ cap)
      (hA : cap ≠ 0 → A = some ⟨l.b, l.o + off * l.es, none⟩ ∧ off + cap ≤ l.tot) : Rep E (.own id off len) (.slice A len cap)
  | ptr (id ix c : Nat) (l : Loc) (hl : E.ρ id = some l) : Rep E (.ptr id ix c) (.pointer (some ⟨l.b, l.o + ix * l.es + c, none⟩))
  | eptr (x : AV) (c b o : Nat) (cs : Array Value) (f : Nat → Value) (hb : E.H b = some cs) (hat : ∀ y ∈ x.cells, y.atom = true)
      (hc : ∀ k, k < x.cells.length → cs[o + k]? = some (f k)) (hr : ∀ k (h : k < x.cells.length), Rep E (x.cells[k]) (f k)) :
      Rep E (.eptr x c) (.pointer (some ⟨b, o + c, none⟩))
  | agg (cs : List AV) (vs : Array Value) (hn : vs.size = cs.length) (hat : ∀ y ∈ cs, y.atom = true)
      (hr : ∀ j (h : j < cs.length), Rep E (cs[j]) (vs.getD j undef)) : Rep E (.agg cs) (.agg vs)
  | tup (cs : List AV) (vs : Array Value) (hn : vs.size = cs.length)
      (hr : ∀ j (h : j < cs.length), Rep E (cs[j]) (vs.getD j undef)) : Rep E (.tup cs) (.tuple vs)
  | clo (f : FuncId) (first cap : List AV) (fv cv : Array Value) (hn : fv.size = first.length) (hm : cv.size = cap.length)
      (hf : ∀ j (h : j < first.length), Rep E (first[j]) (fv.getD j undef)) (hc : ∀ j (h : j < cap.length), Rep E (cap[j]) (cv.getD j undef)) :
      Rep E (.clo f first cap) (.func (.func f) fv cv)
  | mp (id : Nat) (l : Loc) (hl : E.ρ id = some l) : Rep E (.mp id) (.map (some l.b))
theorem Rep.mono {E E' : Env} (h : E.le E') {x : AV} {v : Value} (r : Rep E x v) : Rep E' x v := by
  induction r with
  | junk x => exact .junk x
  | v x hx => exact .v x hx
  | sl0 t A cap ht => exact .sl0 t A cap ht
  | sl t xs b o cap cs es f hne hb hes hcap ht hat hc hr ih => exact .sl t xs b o cap cs es f hne (h.2 _ _ hb) hes hcap ht hat hc ih
  | own id off len A cap l hl hlen hA => exact .own id off len A cap l (h.1 _ _ hl) hlen hA
  | ptr id ix c l hl => exact .ptr id ix c l (h.1 _ _ hl)
  | eptr x c b o cs f hb hat hc hr ih => exact .eptr x c b o cs f (h.2 _ _ hb) hat hc ih
  | agg cs vs hn hat hr ih => exact .agg cs vs hn hat ih
  | tup cs vs hn hr ih => exact .tup cs vs hn ih
  | clo f first cap fv cv hn hm hf hc ih1 ih2 => exact .clo f first cap fv cv hn hm ih1 ih2
  | mp id l hl => exact .mp id l (h.1 _ _ hl)
/-- Values without numbers of blocks. -/
inductive Closed : AV → Prop
  | v (x : Value) : Closed (.v x)
  | sl (t : Bool) (xs : List AV) (h : ∀ y ∈ xs, Closed y) : Closed (.sl t xs)
  | eptr (x : AV) (c : Nat) (h : Closed x) : Closed (.eptr x c)
  | agg (cs : List AV) (h : ∀ y ∈ cs, Closed y) : Closed (.agg cs)
  | tup (cs : List AV) (h : ∀ y ∈ cs, Closed y) : Closed (.tup cs)
  | clo (f : FuncId) (a b : List AV) (ha : ∀ y ∈ a, Closed y) (hb : ∀ y ∈ b, Closed y) : Closed (.clo f a b)
theorem Closed.cells {x : AV} (h : Closed x) : ∀ y ∈ x.cells, Closed y := by
  cases h with
  | agg cs h => exact h
  | v x => intro y hy; simp [AV.cells] at hy; subst hy; exact .v x
  | sl t xs h => intro y hy; simp [AV.cells] at hy; subst hy; exact .sl t xs h
  | eptr x c h => intro y hy; simp [AV.cells] at hy; subst hy; exact .eptr x c h
  | tup cs h => intro y hy; simp [AV.cells] at hy; subst hy; exact .tup cs h
  | clo f a b ha hb => intro y hy; simp [AV.cells] at hy; subst hy; exact .clo f a b ha hb
theorem Closed.flat {xs : List AV} (h : ∀ y ∈ xs, Closed y) : ∀ y ∈ flat xs, Closed y := by
  intro y hy
  simp [Rf.flat] at hy
  obtain ⟨x, hx, hyx⟩ := hy
  exact (h x hx).cells y hyx
theorem Rep.closed {E E' : Env} (hH : ∀ b cs, E.H b = some cs → E'.H b = some cs) {x : AV} {v : Value} (r : Rep E x v) (hx : Closed x) : Rep E' x v := by
  induction r with
  | junk x => cases hx
  | v x h => exact .v x h
  | sl0 t A cap ht => exact .sl0 t A cap ht
  | sl t xs b o cap cs es f hne hb hes hcap ht hat hc hr ih =>
    cases hx with
    | sl _ _ h => exact .sl t xs b o cap cs es f hne (hH _ _ hb) hes hcap ht hat hc (fun k hk => ih k hk (Closed.flat h _ (List.getElem_mem hk)))
  | own id off len A cap l hl hlen hA => cases hx
  | ptr id ix c l hl => cases hx
  | eptr x c b o cs f hb hat hc hr ih =>
    cases hx with
    | eptr _ _ h => exact .eptr x c b o cs f (hH _ _ hb) hat hc (fun k hk => ih k hk (h.cells _ (List.getElem_mem hk)))
  | agg cs vs hn hat hr ih => cases hx with | agg _ h => exact .agg cs vs hn hat (fun j hj => ih j hj (h _ (List.getElem_mem hj)))
  | tup cs vs hn hr ih => cases hx with | tup _ h => exact .tup cs vs hn (fun j hj => ih j hj (h _ (List.getElem_mem hj)))
  | clo f first cap fv cv hn hm hf hc ih1 ih2 =>
    cases hx with
    | clo _ _ _ ha hb => exact .clo f first cap fv cv hn hm (fun j hj => ih1 j hj (ha _ (List.getElem_mem hj))) (fun j hj => ih2 j hj (hb _ (List.getElem_mem hj)))
  | mp id l hl => cases hx
theorem Rep.loose {E : Env} {t : Bool} {xs : List AV} {v : Value} (r : Rep E (.sl t xs) v) : Rep E (.sl false xs) v := by
  cases r with
  | sl0 _ A cap ht => exact .sl0 false A cap (by simp)
  | sl _ _ b o cap cs es f hne hb hes hcap ht hat hc hr => exact .sl false xs b o cap cs es f hne hb hes hcap (by simp) hat hc hr
/-- Nothing of a value that stands for an atom is a struct. -/
theorem Rep.atom_cells {E : Env} {x : AV} {v : Value} (r : Rep E x v) (h : x.atom = true) : v.cells = #[v] ∧ (∀ cs, v ≠ .agg cs) ∧ ∀ cs, v ≠ .tuple cs := by
  cases r <;> simp_all [AV.atom, Value.cells]
  rename_i h
  cases v <;> simp_all [scalar]
theorem Rep.cells {E : Env} {x : AV} {v : Value} (r : Rep E x v) (h : x.solid = true) :
    v.cells.size = x.cells.length ∧ ∀ j (hj : j < x.cells.length), Rep E (x.cells[j]) (v.cells.getD j undef) := by
  by_cases ha : x.atom = true
  · have hv := (r.atom_cells ha).1
    have hx : x.cells = [x] := by cases x <;> simp_all [AV.atom, AV.cells]
    rw [hv, hx]
    refine ⟨rfl, fun j hj => ?_⟩
    simp at hj
    subst hj
    exact r
  · cases r with
    | agg cs vs hn hat hr => exact ⟨hn, hr⟩
    | junk x => simp [AV.solid] at h
    | tup cs vs hn hr => simp [AV.solid] at h
    | _ => simp [AV.atom] at ha
theorem Rep.cells_atom {E : Env} {x : AV} {v : Value} (r : Rep E x v) (h : x.solid = true) : ∀ y ∈ x.cells, y.atom = true := by
  by_cases ha : x.atom = true
  · have hx : x.cells = [x] := by cases x <;> simp_all [AV.atom, AV.cells]
    rw [hx]; simpa using ha
  · cases r with
    | agg cs vs hn hat hr => exact hat
    | junk x => simp [AV.solid] at h
    | tup cs vs hn hr => simp [AV.solid] at h
    | _ => simp [AV.atom] at ha
/-! ### the state -/
inductive Blk where
  | arr (es : Nat) (xs : List AV)
  | map (ents : List (AV × AV))
structure St where
  n : Nat
  g : Nat → Option Blk
def BlkOk (E : Env) (w : World) (l : Loc) : Blk → Prop
  | .arr es xs => l.es = es ∧ xs.length ≤ l.tot ∧ (∀ x ∈ xs, x.cells.length = es) ∧ (∀ y ∈ flat xs, y.atom = true) ∧
      ∃ cs el, w.heap[l.b]? = some (.cells cs el (0, 0)) ∧ l.o + l.tot * es ≤ cs.size ∧
        ∀ k (h : k < (flat xs).length), ∃ v, cs[l.o + k]? = some v ∧ Rep E ((flat xs)[k]) v
  | .map ents => ∃ es clock, w.heap[l.b]? = some (.map es clock) ∧ es.size = ents.length ∧
      ∀ k (h : k < ents.length), ∃ e, es[k]? = some e ∧ Rep E (ents[k].1) e.key ∧ Rep E (ents[k].2) e.val
structure Sim (E : Env) (S : St) (w : World) : Prop where
  hH : ∀ b cs, E.H b = some cs → ∃ el fz, w.heap[b]? = some (.cells cs el fz)
  live : ∀ id k, S.g id = some k → ∃ l, E.ρ id = some l ∧ E.H l.b = none ∧ BlkOk E w l k
  dis : ∀ i j ki kj li lj, S.g i = some ki → S.g j = some kj → i ≠ j → E.ρ i = some li → E.ρ j = some lj → li.b ≠ lj.b
  fresh : ∀ id, S.n ≤ id → E.ρ id = none
structure Evo (E : Env) (S : St) (w : World) (E' : Env) (S' : St) (w' : World) : Prop where
  os : w'.os = w.os
  tape : w'.tape = w.tape
  output : w'.output = w.output
  size : w.heap.size ≤ w'.heap.size
  keep : ∀ b, b < w.heap.size → (∀ id l k, S.g id = some k → E.ρ id = some l → l.b ≠ b) → w'.heap[b]? = w.heap[b]?
  grow : ∀ id l k, S'.g id = some k → E'.ρ id = some l → w.heap.size ≤ l.b ∨ ∃ id0 l0 k0, S.g id0 = some k0 ∧ E.ρ id0 = some l0 ∧ l0.b = l.b
  le : E.le E'
  hsub : ∀ b cs, E'.H b = some cs → E.H b = some cs ∨ w.heap.size ≤ b ∨ ∃ id0 l0 k0, S.g id0 = some k0 ∧ E.ρ id0 = some l0 ∧ l0.b = b
theorem Evo.refl (E : Env) (S : St) (w : World) : Evo E S w E S w :=
  ⟨rfl, rfl, rfl, Nat.le_refl _, fun _ _ _ => rfl, fun id l k hk hl => .inr ⟨id, l, k, hk, hl, rfl⟩, Env.le_refl _, fun _ _ e => .inl e⟩
theorem Evo.trans {E1 E2 E3 : Env} {S1 S2 S3 : St} {w1 w2 w3 : World} (h : Evo E1 S1 w1 E2 S2 w2) (k : Evo E2 S2 w2 E3 S3 w3) : Evo E1 S1 w1 E3 S3 w3 := by
  refine ⟨k.os.trans h.os, k.tape.trans h.tape, k.output.trans h.output, Nat.le_trans h.size k.size, ?_, ?_, Env.le_trans h.le k.le, ?_⟩
  · intro b hb hn
    rw [k.keep b (Nat.lt_of_lt_of_le hb h.size) ?_, h.keep b hb hn]
    intro id l kk hk hl e
    rcases h.grow id l kk hk hl with hge | ⟨id0, l0, k0, a1, a2, a3⟩
    · omega
    · exact hn id0 l0 k0 a1 a2 (a3.trans e)
  · intro id l kk hk hl
    rcases k.grow id l kk hk hl with hge | ⟨id0, l0, k0, a1, a2, a3⟩
    · left; exact Nat.le_trans h.size hge
    · rcases h.grow id0 l0 k0 a1 a2 with hge | ⟨id1, l1, k1, b1, b2, b3⟩
      · left; omega
      · right; exact ⟨id1, l1, k1, b1, b2, b3.trans a3⟩
  · intro b cs e
    rcases k.hsub b cs e with e1 | hge | ⟨id0, l0, k0, a1, a2, a3⟩
    · exact h.hsub b cs e1
    · right; left; exact Nat.le_trans h.size hge
    · rcases h.grow id0 l0 k0 a1 a2 with hge | ⟨id1, l1, k1, b1, b2, b3⟩
      · right; left; omega
      · right; right; exact ⟨id1, l1, k1, b1, b2, b3.trans a3⟩
theorem BlkOk.mono {E E' : Env} {w w' : World} {l : Loc} {k : Blk} (h : BlkOk E w l k) (hE : E.le E') (hw : w'.heap[l.b]? = w.heap[l.b]?) : BlkOk E' w' l k := by
  cases k with
  | arr es xs =>
    obtain ⟨h1, h2, h3, h4, cs, el, h5, h6, h7⟩ := h
    exact ⟨h1, h2, h3, h4, cs, el, by rw [hw, h5], h6, fun k hk => let ⟨v, a, b⟩ := h7 k hk; ⟨v, a, b.mono hE⟩⟩
  | map ents =>
    obtain ⟨es, clock, h1, h2, h3⟩ := h
    exact ⟨es, clock, by rw [hw, h1], h2, fun k hk => let ⟨e, a, b, c⟩ := h3 k hk; ⟨e, a, b.mono hE, c.mono hE⟩⟩
theorem BlkOk.lt {E : Env} {w : World} {l : Loc} {k : Blk} (h : BlkOk E w l k) : l.b < w.heap.size := by
  cases k with
  | arr es xs => obtain ⟨_, _, _, _, cs, el, h5, _⟩ := h; exact (Array.getElem?_eq_some_iff.mp h5).1
  | map ents => obtain ⟨es, clock, h1, _⟩ := h; exact (Array.getElem?_eq_some_iff.mp h1).1
end Go.Rf

