import Derived.Test.YtpllebbaahanjaaRfFlat
import Derived.Laws.Entries
set_option linter.unusedVariables false
set_option linter.unusedSimpArgs false
namespace Go.Rf
open Go.RowKit

abbrev AF := Nat → AV
def AF.put (a : AF) (d : Option Nat) (x : AV) : AF := match d with | some d => updF a d x | none => a
structure RepF (E : Env) (n : Nat) (a : AF) (act : Act) : Prop where
  size : act.tmps.size = n
  defers : act.defers = []
  at_ : ∀ t, Rep E (a t) (act.tmps.getD t undef)
theorem RepF.mono {E E' : Env} {n : Nat} {a : AF} {act : Act} (h : RepF E n a act) (hE : E.le E') : RepF E' n a act := ⟨h.size, h.defers, fun t => (h.at_ t).mono hE⟩
theorem RepF.put {E : Env} {n : Nat} {a : AF} {act : Act} (h : RepF E n a act) {dst : Option Nat} (hd : ∀ d, dst = some d → d < n) {x : AV} {v : Value} (r : Rep E x v) :
    RepF E n (a.put dst x) (act.put dst v) := by
  cases dst with
  | none => exact h
  | some d =>
    have hdn := hd d rfl
    refine ⟨by simp [Act.put, h.size], h.defers, fun t => ?_⟩
    simp only [AF.put, updF, Act.put]
    have hs := h.size
    by_cases e : t = d
    · subst e; rw [if_pos rfl]; simp [Array.getD_eq_getD_getElem?, Array.getElem?_setIfInBounds, hs, hdn]; exact r
    · rw [if_neg e]
      have := h.at_ t
      simp only [Array.getD_eq_getD_getElem?] at this ⊢
      rw [Array.getElem?_setIfInBounds_ne (by omega)]; exact this
/-- Operands. -/
inductive Opd where
  | t (i : Nat)
  | c (x : AV)
def Opd.ev (a : AF) : Opd → AV
  | .t i => a i
  | .c x => x
def atomOf : Value → Option AV
  | .slice none 0 0 => some (.sl true [])
  | .func (.func f) ⟨[]⟩ ⟨[]⟩ => some (.clo f [] [])
  | x => if scalar x then some (.v x) else none
def ofVal : Value → Option AV
  | .agg cs => (cs.toList.mapM atomOf).map .agg
  | x => atomOf x
def ofOperand : Operand → Option Opd
  | .tmp t => some (.t t)
  | .const v => (ofVal v).map .c
  | .func f => some (.c (.clo f [] []))
  | .global _ => none
theorem atomOf_ok {E : Env} {x : Value} {y : AV} (h : atomOf x = some y) : Rep E y x ∧ y.atom = true ∧ Closed y := by
  unfold atomOf at h
  split at h
  · cases h; exact ⟨.sl0 true none 0 (by simp), rfl, .sl true [] (by simp)⟩
  · cases h; exact ⟨.clo _ [] [] _ _ rfl rfl (by simp) (by simp), rfl, .clo _ _ _ (by simp) (by simp)⟩
  · split at h
    · rename_i hs; cases h; exact ⟨.v _ hs, rfl, .v _⟩
    · cases h
theorem mapM_atomOf {E : Env} : ∀ {l : List Value} {ys : List AV}, l.mapM atomOf = some ys → ys.length = l.length ∧ (∀ y ∈ ys, y.atom = true ∧ Closed y) ∧ ∀ j (h : j < ys.length), Rep E (ys[j]) (l.getD j undef)
  | [], ys, h => by simp at h; subst h; simp
  | x :: l, ys, h => by
    simp only [List.mapM_cons, Option.bind_eq_bind, Option.bind_eq_some_iff, Option.pure_def, Option.some.injEq] at h
    obtain ⟨y, hy, zs, hz, rfl⟩ := h
    obtain ⟨h1, h2, h3⟩ := mapM_atomOf (E := E) hz
    obtain ⟨g1, g2, g3⟩ := atomOf_ok (E := E) hy
    refine ⟨by simp [h1], ?_, ?_⟩
    · intro z hz'; simp at hz'; rcases hz' with rfl | hz'
      · exact ⟨g2, g3⟩
      · exact h2 z hz'
    · intro j hj
      cases j with
      | zero => simpa using g1
      | succ j => simpa using h3 j (by simpa using hj)
theorem ofVal_ok {E : Env} {x : Value} {y : AV} (h : ofVal x = some y) : Rep E y x ∧ Closed y := by
  unfold ofVal at h
  split at h
  · rename_i cs
    simp only [Option.map_eq_some_iff] at h
    obtain ⟨ys, h1, rfl⟩ := h
    obtain ⟨a, b, c⟩ := mapM_atomOf (E := E) h1
    refine ⟨.agg ys cs (by simp [a]) (fun y hy => (b y hy).1) (fun j hj => ?_), .agg ys (fun y hy => (b y hy).2)⟩
    have := c j hj
    simpa [Array.getD_eq_getD_getElem?, List.getD_eq_getElem?_getD] using this
  · obtain ⟨a, _, b⟩ := atomOf_ok (E := E) h; exact ⟨a, b⟩
theorem ofOperand_ok {E : Env} {n : Nat} {a : AF} {act : Act} (h : RepF E n a act) {x : Operand} {y : Opd} (hx : ofOperand x = some y) : Rep E (y.ev a) (act.eval x) := by
  cases x with
  | tmp t => simp [ofOperand] at hx; subst hx; exact h.at_ t
  | const v =>
    simp only [ofOperand, Option.map_eq_some_iff] at hx
    obtain ⟨z, h1, rfl⟩ := hx
    exact (ofVal_ok h1).1
  | global g => simp [ofOperand] at hx
  | func f => simp [ofOperand] at hx; subst hx; exact .clo f [] [] _ _ rfl rfl (by simp) (by simp)
/-! ### what an operation wants -/
structure Out where
  v : Nat → AV
  up : List (Option Blk)
  nw : Option Blk
structure Eff where
  F : List Nat
  k : List Blk → Option Out
def St.setL (S : St) : List Nat → List (Option Blk) → St
  | i :: is, k :: ks => (S.set i k).setL is ks
  | _, _ => S
def St.setO (S : St) (i : Nat) : Option Blk → St
  | none => S
  | some b => S.set i (some b)
def Eff.run (e : Eff) (S : St) (nid : Nat) : Option (AV × St) :=
  match e.F.mapM S.g with
  | none => none
  | some bs => match e.k bs with
    | none => none
    | some o => some (o.v nid, (S.setL e.F o.up).setO nid o.nw)
def Eff.val (o : Option AV) : Eff := ⟨[], fun _ => o.map fun v => ⟨fun _ => v, [], none⟩⟩
def Eff.rd (id : Nat) (k : Blk → Option AV) : Eff := ⟨[id], fun | [b] => (k b).map fun v => ⟨fun _ => v, [], none⟩ | _ => none⟩
def Eff.wr (id : Nat) (k : Blk → Option Blk) : Eff := ⟨[id], fun | [b] => (k b).map fun b' => ⟨fun _ => .junk, [some b'], none⟩ | _ => none⟩
def Eff.new (o : Option (Blk × (Nat → AV))) : Eff := ⟨[], fun _ => o.map fun p => ⟨p.2, [], some p.1⟩⟩
/-- A block's number is given up for a new one. -/
def Eff.mv (id : Nat) (k : Blk → Option (Blk × (Nat → AV))) : Eff := ⟨[id], fun | [b] => (k b).map fun p => ⟨p.2, [none], some p.1⟩ | _ => none⟩
@[simp] theorem Eff.run_val (o : Option AV) (S : St) (nid : Nat) : (Eff.val o).run S nid = o.map fun v => (v, S) := by
  cases o <;> simp [Eff.run, Eff.val, St.setL, St.setO]
@[simp] theorem Eff.run_rd (id : Nat) (k : Blk → Option AV) (S : St) (nid : Nat) : (Eff.rd id k).run S nid = ((S.g id).bind k).map fun v => (v, S) := by
  cases h : S.g id with
  | none => simp [Eff.run, Eff.rd, h]
  | some b => cases h2 : k b <;> simp [Eff.run, Eff.rd, h, h2, St.setL, St.setO]
@[simp] theorem Eff.run_wr (id : Nat) (k : Blk → Option Blk) (S : St) (nid : Nat) : (Eff.wr id k).run S nid = ((S.g id).bind k).map fun b => (.junk, S.set id (some b)) := by
  cases h : S.g id with
  | none => simp [Eff.run, Eff.wr, h]
  | some b => cases h2 : k b <;> simp [Eff.run, Eff.wr, h, h2, St.setL, St.setO]
@[simp] theorem Eff.run_new (o : Option (Blk × (Nat → AV))) (S : St) (nid : Nat) : (Eff.new o).run S nid = o.map fun p => (p.2 nid, S.set nid (some p.1)) := by
  cases o <;> simp [Eff.run, Eff.new, St.setL, St.setO]
@[simp] theorem Eff.run_mv (id : Nat) (k : Blk → Option (Blk × (Nat → AV))) (S : St) (nid : Nat) :
    (Eff.mv id k).run S nid = ((S.g id).bind k).map fun p => (p.2 nid, (S.set id none).set nid (some p.1)) := by
  cases h : S.g id with
  | none => simp [Eff.run, Eff.mv, h]
  | some b => cases h2 : k b <;> simp [Eff.run, Eff.mv, h, h2, St.setL, St.setO]
/-! ### an operation's soundness -/
def OpOk (P : Program) (n : Nat) (o : Oper) (a : AF) (S : St) (nid : Nat) (v : AV) (S' : St) : Prop :=
  ∀ E w act, Sim E S w → RepF E n a act → E.ρ nid = none → nid < S.n → ∀ (K : Act → World → Prop) (Q : Exit → Act → World → Prop),
    (∀ act' w' E', Sim E' S' w' → RepF E' n (a.put o.dst v) act' → Evo E S w E' S' w' → (∀ i, i ≠ nid → E.ρ i = none → E'.ρ i = none) → K act' w') → o.wp P act w K Q
/-- An operation that yields a value. -/
theorem OpOk.of_run {P : Program} {n : Nat} {o : Oper} {a : AF} {S : St} {nid : Nat} {v : AV} {S' : St} (hd : ∀ d, o.dst = some d → d < n)
    (h : ∀ E w act, Sim E S w → RepF E n a act → E.ρ nid = none → nid < S.n →
      ∃ val w' E', (execOp act.eval o).run P w = .ok (.value val) w' ∧ Sim E' S' w' ∧ Evo E S w E' S' w' ∧ Rep E' v val ∧ ∀ i, i ≠ nid → E.ρ i = none → E'.ρ i = none) :
    OpOk P n o a S nid v S' := by
  intro E w act hS hF hn hlt K Q hK
  obtain ⟨val, w', E', h1, h2, h3, h4, h5⟩ := h E w act hS hF hn hlt
  unfold Oper.wp
  rw [h1, Oper.upon_value]
  exact hK _ _ E' h2 ((hF.mono h3.le).put hd h4) h3 h5
theorem OpOk.of_skip {P : Program} {n : Nat} {o : Oper} {a : AF} {S : St} {nid : Nat} {S' : St} (hd : ∀ d, o.dst = some d → d < n)
    (h : ∀ E w act, Sim E S w → RepF E n a act → E.ρ nid = none → nid < S.n →
      ∃ w' E', (execOp act.eval o).run P w = .ok .skip w' ∧ Sim E' S' w' ∧ Evo E S w E' S' w' ∧ ∀ i, i ≠ nid → E.ρ i = none → E'.ρ i = none) :
    OpOk P n o a S nid .junk S' := by
  intro E w act hS hF hn hlt K Q hK
  obtain ⟨w', E', h1, h2, h3, h5⟩ := h E w act hS hF hn hlt
  unfold Oper.wp
  rw [h1, Oper.upon_skip]
  exact hK _ _ E' h2 ((hF.mono h3.le).put hd (.junk _)) h3 h5
/-- An operation that only yields a value: the state is as it was. -/
theorem OpOk.pure {P : Program} {n : Nat} {o : Oper} {a : AF} {S : St} {nid : Nat} {v : AV} (hd : ∀ d, o.dst = some d → d < n)
    (h : ∀ E w act, Sim E S w → RepF E n a act → ∃ val, (execOp act.eval o).run P w = .ok (.value val) w ∧ Rep E v val) : OpOk P n o a S nid v S :=
  .of_run hd fun E w act hS hF _ _ => let ⟨val, h1, h2⟩ := h E w act hS hF; ⟨val, w, E, h1, hS, .refl _ _ _, h2, fun _ _ e => e⟩
end Go.Rf

