import Derived.Test.YtidkjfaeolfcaaaGreatRfPure
/- Own work: results that lie in memory of their own. -/
set_option linter.unusedVariables false
set_option linter.unusedSimpArgs false
namespace Go.Rf
open Go.RowKit

inductive FzN (g : Nat → Option Blk) : AV → AV → Prop
  | v (x : Value) : FzN g (.v x) (.v x)
  | nil (t u : Bool) (h : u = true → t = true) : FzN g (.sl t []) (.sl u [])
  | own (id off len es : Nat) (xs zs : List AV) (hg : g id = some (.arr es xs)) (hl : off + len ≤ xs.length) (hz : zs.length = len)
      (h : ∀ i (h1 : i < ((xs.drop off).take len).length) (h2 : i < zs.length), FzN g (((xs.drop off).take len)[i]) (zs[i])) : FzN g (.own id off len) (.sl false zs)
  | agg (cs ds : List AV) (hl : ds.length = cs.length) (h : ∀ i (h1 : i < cs.length) (h2 : i < ds.length), FzN g (cs[i]) (ds[i])) : FzN g (.agg cs) (.agg ds)
  | tup (cs ds : List AV) (hl : ds.length = cs.length) (h : ∀ i (h1 : i < cs.length) (h2 : i < ds.length), FzN g (cs[i]) (ds[i])) : FzN g (.tup cs) (.tup ds)
theorem FzN.fz {g : Nat → Option Blk} {x y : AV} (h : FzN g x y) : Fz g x y := by
  induction h with
  | v x => exact .closed _ (.v x)
  | nil t u h =>
    cases u with
    | true => rw [h rfl]; exact .closed _ (.sl _ _ (by simp))
    | false => exact .loose t [] (.sl _ _ (by simp))
  | own id off len es xs zs hg hl hz h ih => exact .own id off len es xs zs hg hl hz ih
  | agg cs ds hl h ih => exact .agg cs ds hl ih
  | tup cs ds hl h ih => exact .tup cs ds hl ih
theorem FzN.closed {g : Nat → Option Blk} {x y : AV} (h : FzN g x y) : Closed y := by
  have key : ∀ {xs zs : List AV}, zs.length = xs.length → (∀ i (h1 : i < xs.length) (h2 : i < zs.length), Closed (zs[i])) → ∀ y ∈ zs, Closed y := by
    intro xs zs hl h y hy
    obtain ⟨i, hi, rfl⟩ := List.mem_iff_getElem.mp hy
    exact h i (by omega) hi
  induction h with
  | v x => exact .v x
  | nil t u h => exact .sl _ _ (by simp)
  | own id off len es xs zs hg hl hz h ih => exact .sl _ _ (key (xs := (xs.drop off).take len) (by rw [hz]; simp; omega) ih)
  | agg cs ds hl h ih => exact .agg _ (key hl ih)
  | tup cs ds hl h ih => exact .tup _ (key hl ih)
theorem FzN.rep {E : Env} {S : St} {w : World} (hS : Sim E S w) {g : Nat → Option Blk} (hg : ∀ i k, g i = some k → S.g i = some k) {E2 : Env}
    (hL : ∀ id es xs l, g id = some (.arr es xs) → E.ρ id = some l → ∀ cs el fz, w.heap[l.b]? = some (.cells cs el fz) → E2.H l.b = some cs) :
    ∀ {x r : AV}, FzN g x r → ∀ {v : Value}, Rep E x v → Rep E2 r v := by
  intro x r h
  induction h with
  | v x => intro v hr; cases hr with | v _ hs => exact .v _ hs
  | nil t u h =>
    intro v hr
    cases hr with
    | sl0 _ A cap ht => exact .sl0 u A cap (fun e => ht (h e))
    | sl _ _ b o cap cs es f hne => simp at hne
  | own id off len es xs zs hgi hl hz h ih =>
    intro v hr
    exact fz_own hS hg hL hgi hl hz (fun i h1 h2 => (h i h1 h2).fz) (fun i h1 h2 v hv => ih i h1 h2 hv) hr
  | agg cs ds hl h ih =>
    intro v hr
    cases hr with
    | agg _ vs hn hat hr =>
      refine .agg ds vs (by omega) (fun y hy => ?_) (fun j hj => ih j (by omega) hj (hr j (by omega)))
      obtain ⟨k, hk, e⟩ := List.mem_iff_getElem.mp hy
      rw [← e]
      exact (h k (by omega) hk).fz.cells.2.1 (hat _ (List.getElem_mem _))
  | tup cs ds hl h ih =>
    intro v hr
    cases hr with
    | tup _ vs hn hr => exact .tup ds vs (by omega) (fun j hj => ih j (by omega) hj (hr j (by omega)))
/-- As PureC; and what the result holds on to was made by the call. -/
def PureN (P : Program) (f : FuncId) (args : List AV) (r : AV) : Prop :=
  Callable P f ∧ ∀ H w vals, Gam P H → HOk H w → Reps ⟨noρ, H⟩ args vals →
    Calls P f vals w fun e w' => ∃ v H', e = .returned v ∧ (∀ b cs, H' b = some cs → w.heap.size ≤ b) ∧ HOk H' w' ∧ Rep ⟨noρ, H'⟩ r v ∧ Below w.heap.size w w'
theorem PureN.of_callR {P : Program} {f : FuncId} {args : List AV} {r : AV} (h : CallR P f args S0 fun r' S' => FzN S'.g r' r) : PureN P f args r := by
  refine ⟨h.1, fun H w vals hG hH hv => (h.2 _ w vals hG (sim0 hH) hv).mono ?_⟩
  rintro e w' ⟨v, r', S', E', rfl, hz, hS, hr, hev⟩
  let H' : Nat → Option (Array Value) := fun b => if b < w.heap.size then none else match w'.heap[b]? with | some (.cells cs _ _) => some cs | _ => none
  have hH2 : ∀ b cs, H' b = some cs → w.heap.size ≤ b := by
    intro b cs e
    simp only [H'] at e
    split at e
    · cases e
    · omega
  have hbelow : Below w.heap.size w w' := ⟨hev.evo.os, hev.evo.tape, hev.evo.output, hev.evo.size, fun k hk => hev.evo.keep k hk (fun id l kk hk => by simp [S0] at hk)⟩
  have hH3 : HOk H' w' := by
    intro b cs e
    simp only [H'] at e
    split at e
    · cases e
    · split at e
      · rename_i cs' el fz hw
        cases e; exact ⟨el, fz, hw⟩
      · cases e
  refine ⟨v, H', rfl, hH2, hH3, ?_, hbelow⟩
  refine FzN.rep (S := S') hS (g := S'.g) (fun _ _ e => e) (E2 := ⟨noρ, H'⟩) ?_ hz hr
  intro id es xs l hg hl cs el fz hw
  rcases hev.evo.grow id l _ hg hl with h1 | ⟨id0, l0, k0, a1, _⟩
  · simp only [H']
    rw [if_neg (by omega), hw]
  · simp [S0] at a1
/-- What is handed over is looked at; the result is new. -/
theorem CallR.fresh_gen {P : Program} {f : FuncId} {args args' : List AV} {r : AV} (h : PureN P f args' r) {S : St} {K : AV → St → Prop} (g : Nat → Option Blk) (hg : ∀ i k, g i = some k → S.g i = some k)
    (hl : args'.length = args.length) (hz : ∀ j (h1 : j < args.length) (h2 : j < args'.length), Fz g (args[j]) (args'[j])) (hr : Closed r) (hk : K r S) : CallR P f args S K := by
  refine ⟨h.1, fun E w vals hG hS hv => ?_⟩
  have hH1 : HOk (stillH E g w) w := by
    intro b cs e
    rcases stillH_inv e with h1 | ⟨_, h1, _⟩
    · exact hS.hH b cs h1
    · exact h1
  have hargs : Reps ⟨noρ, stillH E g w⟩ args' vals := by
    refine ⟨by rw [hv.1, hl], fun j hj => ?_⟩
    refine Fz.rep hS hg (E2 := ⟨noρ, stillH E g w⟩) (fun b cs e => stillH_of e) (fun id es xs l hgi hli cs el fz hw => ?_) (hz j (by omega) hj) (hv.2 j (by omega))
    obtain ⟨l', a1, a2, _⟩ := hS.live id _ (hg _ _ hgi)
    rw [hli] at a1; cases a1
    exact stillH_g hgi hli a2 hw
  refine (h.2 _ w vals (hG.sub fun b cs e => stillH_of e) hH1 hargs).mono ?_
  rintro e w' ⟨v, H', rfl, g2, g3, g4, g5⟩
  let H2 : Nat → Option (Array Value) := fun b => if b < w.heap.size then E.H b else H' b
  have k1 : ∀ b cs, E.H b = some cs → H2 b = some cs := fun b cs e => by simp only [H2]; rw [if_pos (hS.H_lt e)]; exact e
  have k2 : ∀ b cs, H' b = some cs → H2 b = some cs := fun b cs e => by have := g2 b cs e; simp only [H2]; rw [if_neg (by omega)]; exact e
  have hle : E.le ⟨E.ρ, H2⟩ := ⟨fun _ _ e => e, k1⟩
  refine ⟨v, r, S, ⟨E.ρ, H2⟩, rfl, hk, ⟨fun b cs e => ?_, fun i k e => ?_, hS.dis, hS.fresh⟩, Rep.closed (E := ⟨noρ, H'⟩) (E' := ⟨E.ρ, H2⟩) k2 g4 hr,
    ⟨⟨g5.os, g5.tape, g5.output, g5.size, fun b hb _ => g5.block b hb, fun id l k hk hl => .inr ⟨id, l, k, hk, hl, rfl⟩, hle, fun b cs e => ?_⟩, Nat.le_refl _, fun _ _ e => e⟩⟩
  · simp only [H2] at e
    split at e
    · rename_i hb; rw [g5.block b hb]; exact hS.hH b cs e
    · exact g3 b cs e
  · obtain ⟨l, a1, a2, a3⟩ := hS.live i k e
    exact ⟨l, a1, by simp only [H2]; rw [if_pos a3.lt]; exact a2, a3.mono hle (g5.block _ a3.lt)⟩
  · simp only [H2] at e
    split at e
    · exact .inl e
    · right; left; omega
end Go.Rf

