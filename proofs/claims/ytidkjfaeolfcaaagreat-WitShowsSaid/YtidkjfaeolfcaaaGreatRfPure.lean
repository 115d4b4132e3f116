import Derived.Test.YtidkjfaeolfcaaaGreatRfFn
set_option linter.unusedVariables false
set_option linter.unusedSimpArgs false
namespace Go.Rf
open Go.RowKit

def noρ : Nat → Option Loc := fun _ => none
def S0 : St := ⟨0, fun _ => none⟩
def HOk (H : Nat → Option (Array Value)) (w : World) : Prop := ∀ b cs, H b = some cs → ∃ el fz, w.heap[b]? = some (.cells cs el fz)
/-- What a call does that only makes memory: r stands for its result; nothing that was there is written. -/
def PureC (P : Program) (f : FuncId) (args : List AV) (r : AV) : Prop :=
  Callable P f ∧ ∀ H w vals, Gam P H → HOk H w → Reps ⟨noρ, H⟩ args vals →
    Calls P f vals w fun e w' => ∃ v H', e = .returned v ∧ (∀ b cs, H b = some cs → H' b = some cs) ∧ (∀ b cs, H' b = some cs → H b = some cs ∨ w.heap.size ≤ b) ∧ HOk H' w' ∧ Rep ⟨noρ, H'⟩ r v ∧ Below w.heap.size w w'
theorem sim0 {H : Nat → Option (Array Value)} {w : World} (h : HOk H w) : Sim ⟨noρ, H⟩ S0 w :=
  ⟨h, fun i k e => by simp [S0] at e, fun i j ki kj li lj e => by simp [S0] at e, fun _ _ => rfl⟩
theorem PureC.of_callR {P : Program} {f : FuncId} {args : List AV} {r : AV} (h : CallR P f args S0 fun r' S' => Fz S'.g r' r) : PureC P f args r := by
  refine ⟨h.1, fun H w vals hG hH hv => (h.2 _ w vals hG (sim0 hH) hv).mono ?_⟩
  rintro e w' ⟨v, r', S', E', rfl, hz, hS, hr, hev⟩
  have hsub : ∀ b cs, E'.H b = some cs → H b = some cs ∨ w.heap.size ≤ b := by
    intro b cs e
    rcases hev.evo.hsub b cs e with h1 | h1 | ⟨id0, l0, k0, a1, _⟩
    · exact .inl h1
    · exact .inr h1
    · simp [S0] at a1
  -- all that was made is frozen
  let H' : Nat → Option (Array Value) := fun b => if b < w.heap.size then H b else match w'.heap[b]? with | some (.cells cs _ _) => some cs | _ => none
  have hH1 : ∀ b cs, H b = some cs → H' b = some cs := by
    intro b cs e
    have : b < w.heap.size := by obtain ⟨el, fz, h1⟩ := hH b cs e; exact (Array.getElem?_eq_some_iff.mp h1).1
    simp only [H', this, if_true]; exact e
  have hH2 : ∀ b cs, H' b = some cs → H b = some cs ∨ w.heap.size ≤ b := by
    intro b cs e
    simp only [H'] at e
    split at e
    · exact .inl e
    · right; omega
  have hbelow : Below w.heap.size w w' := ⟨hev.evo.os, hev.evo.tape, hev.evo.output, hev.evo.size, fun k hk => hev.evo.keep k hk (fun id l kk hk => by simp [S0] at hk)⟩
  have hH3 : HOk H' w' := by
    intro b cs e
    simp only [H'] at e
    split at e
    · rename_i hb
      rw [hbelow.block b hb]; exact hH b cs e
    · split at e
      · rename_i cs' el fz hw
        cases e; exact ⟨el, fz, hw⟩
      · cases e
  refine ⟨v, H', rfl, hH1, hH2, hH3, ?_, hbelow⟩
  refine Fz.rep (S := S') hS (g := S'.g) (fun _ _ e => e) (E2 := ⟨noρ, H'⟩) ?_ ?_ hz hr
  · intro b cs e
    rcases hsub b cs e with h1 | h1
    · exact hH1 b cs h1
    · obtain ⟨el, fz, hw⟩ := hS.hH b cs e
      simp only [H']
      rw [if_neg (by omega), hw]
  · intro id es xs l hg hl cs el fz hw
    rcases hev.evo.grow id l _ hg hl with h1 | ⟨id0, l0, k0, a1, _⟩
    · simp only [H']
      rw [if_neg (by omega), hw]
    · simp [S0] at a1
open Classical in
/-- What is held still for a call: what was frozen, and the blocks of g. -/
noncomputable def stillH (E : Env) (g : Nat → Option Blk) (w : World) : Nat → Option (Array Value) := fun b =>
  match E.H b with
  | some cs => some cs
  | none => match w.heap[b]? with
    | some (.cells cs _ _) => if ∃ i k l, g i = some k ∧ E.ρ i = some l ∧ l.b = b then some cs else none
    | _ => none
theorem stillH_of {E : Env} {g : Nat → Option Blk} {w : World} {b : Nat} {cs : Array Value} (h : E.H b = some cs) : stillH E g w b = some cs := by unfold stillH; rw [h]
theorem stillH_g {E : Env} {g : Nat → Option Blk} {w : World} {i : Nat} {k : Blk} {l : Loc} (hg : g i = some k) (hl : E.ρ i = some l) (hN : E.H l.b = none) {cs : Array Value} {el : TypeId} {fz : Nat × Nat}
    (hw : w.heap[l.b]? = some (.cells cs el fz)) : stillH E g w l.b = some cs := by
  unfold stillH; rw [hN, hw]; simp only; rw [if_pos ⟨i, k, l, hg, hl, rfl⟩]
theorem stillH_inv {E : Env} {g : Nat → Option Blk} {w : World} {b : Nat} {cs : Array Value} (h : stillH E g w b = some cs) :
    E.H b = some cs ∨ (E.H b = none ∧ (∃ el fz, w.heap[b]? = some (.cells cs el fz)) ∧ ∃ i k l, g i = some k ∧ E.ρ i = some l ∧ l.b = b) := by
  unfold stillH at h
  split at h
  · rename_i cs' e; left; rw [e, h]
  · rename_i e
    split at h
    · rename_i cs' el fz hw
      split at h
      · rename_i hex; cases h; exact .inr ⟨e, ⟨el, fz, hw⟩, hex⟩
      · cases h
    · cases h
/-- At a call: what is handed over is looked at alone, or is frozen (the blocks of g). -/
theorem CallR.pure_gen {P : Program} {f : FuncId} {args args' : List AV} {r : AV} (h : PureC P f args' r) {S : St} {K : AV → St → Prop} (g : Nat → Option Blk) (hg : ∀ i k, g i = some k → S.g i = some k)
    (S' : St) (hn : S'.n = S.n) (hS' : ∀ i k, S'.g i = some k → S.g i = some k) (hl : args'.length = args.length) (hz : ∀ j (h1 : j < args.length) (h2 : j < args'.length), Fz g (args[j]) (args'[j]))
    (hr : (∀ E1 E2 v, Rep E1 r v → Rep E2 r v) ∨ (Closed r ∧ ∀ i k, g i = some k → S'.g i = none)) (hk : K r S') : CallR P f args S K := by
  refine ⟨h.1, fun E w vals hG hS hv => ?_⟩
  have hH1 : HOk (stillH E g w) w := by
    intro b cs e
    rcases stillH_inv e with h1 | ⟨_, h1, _⟩
    · exact hS.hH b cs h1
    · exact h1
  have hargs : Reps ⟨noρ, stillH E g w⟩ args' vals := by
    refine ⟨by rw [hv.1, hl], fun j hj => ?_⟩
    refine Fz.rep hS hg (E2 := ⟨noρ, stillH E g w⟩) (fun b cs e => stillH_of e) (fun id es xs l hgi hli cs el fz hw => ?_) (hz j (by omega) hj) (hv.2 j (by omega))
    obtain ⟨l', a1, a2, _⟩ := hS.live id _ (hg _ _ hgi)
    rw [hli] at a1; cases a1
    exact stillH_g hgi hli a2 hw
  refine (h.2 _ w vals (hG.sub fun b cs e => stillH_of e) hH1 hargs).mono ?_
  rintro e w' ⟨v, H', rfl, g1, g2, g3, g4, g5⟩
  have hlive : ∀ i k, S.g i = some k → ∃ l, E.ρ i = some l ∧ E.H l.b = none ∧ BlkOk E w l k := hS.live
  have key : ∀ (H2 : Nat → Option (Array Value)), (∀ b cs, E.H b = some cs → H2 b = some cs) → (∀ b cs, H2 b = some cs → H' b = some cs) →
      (∀ i k l, S'.g i = some k → E.ρ i = some l → H2 l.b = none) → (∀ b cs, H2 b = some cs → E.H b = some cs ∨ w.heap.size ≤ b ∨ ∃ id0 l0 k0, S.g id0 = some k0 ∧ E.ρ id0 = some l0 ∧ l0.b = b) →
      Sim ⟨E.ρ, H2⟩ S' w' ∧ Ev E S w ⟨E.ρ, H2⟩ S' w' := by
    intro H2 k1 k2 k3 k4
    have hle : E.le ⟨E.ρ, H2⟩ := ⟨fun _ _ e => e, k1⟩
    refine ⟨⟨fun b cs e => g3 b cs (k2 b cs e), fun i k e => ?_, fun i j ki kj li lj a b => hS.dis i j ki kj li lj (hS' _ _ a) (hS' _ _ b), fun i hi => hS.fresh i (by rw [← hn]; exact hi)⟩,
      ⟨⟨g5.os, g5.tape, g5.output, g5.size, fun b hb _ => g5.block b hb, fun id l k hk hl => .inr ⟨id, l, k, hS' _ _ hk, hl, rfl⟩, hle, k4⟩, by omega, fun _ _ e => e⟩⟩
    obtain ⟨l, a1, a2, a3⟩ := hS.live i k (hS' _ _ e)
    exact ⟨l, a1, k3 i k l e a1, a3.mono hle (g5.block _ a3.lt)⟩
  rcases hr with hr | ⟨hcl, hr⟩
  · obtain ⟨q1, q2⟩ := key (fun b => if b < w.heap.size then E.H b else H' b)
      (fun b cs e => by rw [if_pos (hS.H_lt e)]; exact e)
      (fun b cs e => by
        split at e
        · exact g1 b cs (stillH_of e)
        · exact e)
      (fun i k l hk hl => by
        obtain ⟨l', a1, a2, a3⟩ := hS.live i k (hS' _ _ hk)
        rw [hl] at a1; cases a1
        rw [if_pos a3.lt]; exact a2)
      (fun b cs e => by
        split at e
        · exact .inl e
        · right; left; omega)
    exact ⟨v, r, S', _, rfl, hk, q1, hr _ _ _ g4, q2⟩
  · obtain ⟨q1, q2⟩ := key H' (fun b cs e => g1 b cs (stillH_of e)) (fun _ _ e => e)
      (fun i k l hk hl => by
        obtain ⟨l', a1, a2, a3⟩ := hS.live i k (hS' _ _ hk)
        rw [hl] at a1; cases a1
        cases e : H' l.b with
        | none => rfl
        | some cs =>
          rcases g2 _ _ e with h1 | h1
          · rcases stillH_inv h1 with h2 | ⟨_, _, i2, k2, l2, b1, b2, b3⟩
            · rw [a2] at h2; cases h2
            · by_cases hii : i2 = i
              · subst hii; rw [hr _ _ b1] at hk; cases hk
              · exact (hS.dis i2 i k2 k l2 l (hg _ _ b1) (hS' _ _ hk) hii b2 hl b3).elim
          · have := a3.lt; omega)
      (fun b cs e => by
        rcases g2 _ _ e with h1 | h1
        · rcases stillH_inv h1 with h2 | ⟨_, _, i2, k2, l2, b1, b2, b3⟩
          · exact .inl h2
          · exact .inr (.inr ⟨i2, l2, k2, hg _ _ b1, b2, b3⟩)
        · exact .inr (.inl h1))
    exact ⟨v, r, S', _, rfl, hk, q1, Rep.closed (E := ⟨noρ, H'⟩) (E' := ⟨E.ρ, H'⟩) (fun _ _ e => e) g4 hcl, q2⟩
/-- All arguments are plain data. -/
theorem CallR.pure {P : Program} {f : FuncId} {args : List AV} {r : AV} (h : PureC P f args r) (hc : ∀ x ∈ args, Closed x) (hr : Closed r) {S : St} {K : AV → St → Prop} (hk : K r S) : CallR P f args S K :=
  .pure_gen h (fun _ => none) (fun _ _ e => by cases e) S rfl (fun _ _ e => e) rfl (fun j h1 _ => .closed _ (hc _ (List.getElem_mem h1))) (.inr ⟨hr, fun _ _ e => by cases e⟩) hk
inductive Plain : AV → Prop
  | v (x : Value) : Plain (.v x)
  | agg (cs : List AV) (h : ∀ y ∈ cs, Plain y) : Plain (.agg cs)
  | tup (cs : List AV) (h : ∀ y ∈ cs, Plain y) : Plain (.tup cs)
theorem Plain.rep {r : AV} (h : Plain r) : ∀ E1 E2 v, Rep E1 r v → Rep E2 r v := by
  induction h with
  | v x => intro E1 E2 v hr; cases hr with | v _ h => exact .v x h
  | agg cs h ih => intro E1 E2 v hr; cases hr with | agg _ vs hn hat hr => exact .agg cs vs hn hat (fun j hj => ih _ (List.getElem_mem hj) E1 E2 _ (hr j hj))
  | tup cs h ih => intro E1 E2 v hr; cases hr with | tup _ vs hn hr => exact .tup cs vs hn (fun j hj => ih _ (List.getElem_mem hj) E1 E2 _ (hr j hj))
/-- Arguments may lie under numbers: they are looked at alone; the result is plain. -/
theorem CallR.look {P : Program} {f : FuncId} {args args' : List AV} {r : AV} (h : PureC P f args' r) {S : St} (hl : args'.length = args.length) (hz : ∀ j (h1 : j < args.length) (h2 : j < args'.length), Fz S.g (args[j]) (args'[j]))
    (hr : Plain r) {K : AV → St → Prop} (hk : K r S) : CallR P f args S K :=
  .pure_gen h S.g (fun _ _ e => e) S rfl (fun _ _ e => e) hl hz (.inl hr.rep) hk
end Go.Rf

