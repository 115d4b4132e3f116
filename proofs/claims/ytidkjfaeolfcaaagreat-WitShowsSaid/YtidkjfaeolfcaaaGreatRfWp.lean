import Derived.Test.YtidkjfaeolfcaaaGreatRfCtl
set_option linter.unusedVariables false
set_option linter.unusedSimpArgs false
namespace Go.Rf
open Go.RowKit

structure Ev (E : Env) (S : St) (w : World) (E' : Env) (S' : St) (w' : World) : Prop where
  evo : Evo E S w E' S' w'
  nle : S.n ≤ S'.n
  low : ∀ id, id < S.n → E.ρ id = none → E'.ρ id = none
theorem Ev.refl (E : Env) (S : St) (w : World) : Ev E S w E S w := ⟨.refl _ _ _, Nat.le_refl _, fun _ _ e => e⟩
theorem Ev.trans {E1 E2 E3 : Env} {S1 S2 S3 : St} {w1 w2 w3 : World} (h : Ev E1 S1 w1 E2 S2 w2) (k : Ev E2 S2 w2 E3 S3 w3) : Ev E1 S1 w1 E3 S3 w3 :=
  ⟨h.evo.trans k.evo, Nat.le_trans h.nle k.nle, fun id hi e => k.low id (Nat.lt_of_lt_of_le hi h.nle) (h.low id hi e)⟩
def Post (E0 : Env) (S0 : St) (w0 : World) (n : Nat) (Q : Exit → AF → St → Prop) : Exit → Act → World → Prop :=
  fun e act w => ∃ a S E, Q e a S ∧ Sim E S w ∧ RepF E n a act ∧ Ev E0 S0 w0 E S w
theorem Post.trans {E0 E1 : Env} {S0 S1 : St} {w0 w1 : World} {n : Nat} {Q : Exit → AF → St → Prop} {e : Exit} {act : Act} {w : World} (h : Ev E0 S0 w0 E1 S1 w1) (k : Post E1 S1 w1 n Q e act w) : Post E0 S0 w0 n Q e act w :=
  let ⟨a, S, E, h1, h2, h3, h4⟩ := k; ⟨a, S, E, h1, h2, h3, h.trans h4⟩
/-- Tables of the library's that are read: their names, their cells. -/
def gtabs : List (String × Array Value) := [("internal/strconv.uint64pow10", ((List.range 20).map fun k => Value.int .u64 ((10 : Int) ^ k)).toArray)]
/-- The tables that the program has lie still. -/
def Gam (P : Program) (H : Nat → Option (Array Value)) : Prop := ∀ t ∈ gtabs, ∀ g, P.globalNamed t.1 = some g → H g = some t.2
theorem Gam.sub {P : Program} {H H' : Nat → Option (Array Value)} (h : Gam P H) (k : ∀ b cs, H b = some cs → H' b = some cs) : Gam P H' := fun t ht g hg => k _ _ (h t ht g hg)
theorem Gam.le {P : Program} {E E' : Env} (h : Gam P E.H) (k : E.le E') : Gam P E'.H := h.sub k.2
def AWp (P : Program) (n : Nat) (c : Code) (Q : Exit → AF → St → Prop) (a : AF) (S : St) : Prop :=
  ∀ E w act, Gam P E.H → Sim E S w → RepF E n a act → c.wp P (Post E S w n Q) act w
/-! ### calls -/
def Callable (P : Program) (f : FuncId) : Prop := ∃ fn, P.funcs[f]? = some fn ∧ (fn.name == "runtime.NumGoroutine") = false ∧ fn.body.isNone = false
def Reps (E : Env) (args : List AV) (vals : Array Value) : Prop := vals.size = args.length ∧ ∀ j (h : j < args.length), Rep E (args[j]) (vals.getD j undef)
def CallR (P : Program) (f : FuncId) (args : List AV) (S : St) (K : AV → St → Prop) : Prop :=
  Callable P f ∧ ∀ E w vals, Gam P E.H → Sim E S w → Reps E args vals →
    Calls P f vals w fun e w' => ∃ v r S' E', e = .returned v ∧ K r S' ∧ Sim E' S' w' ∧ Rep E' r v ∧ Ev E S w E' S' w'
theorem CallR.mono {P : Program} {f : FuncId} {args : List AV} {S : St} {K K' : AV → St → Prop} (h : CallR P f args S K) (hk : ∀ r S', K r S' → K' r S') : CallR P f args S K' :=
  ⟨h.1, fun E w vals h0 h1 h2 => (h.2 E w vals h0 h1 h2).mono fun e w' ⟨v, r, S', E', a, b, c⟩ => ⟨v, r, S', E', a, hk _ _ b, c⟩⟩
theorem run_callFunc {P : Program} {f : FuncId} (h : Callable P f) (vals : Array Value) (w : World) : (callFunc f vals).run P w = .ok (.enter f vals) w := by
  obtain ⟨fn, h1, h2, h3⟩ := h
  simp only [callFunc, Sem.run_bind, run_program, Result.andThen_ok, h1]
  simp only [h2, h3]
  rfl
/-- A guard's word: none: it isn't known. -/
def gd (o : AOper) (a : AF) : Option Bool :=
  match o.guard with
  | none => some true
  | some (d, want) => match a d with
    | .v (.bool b) => some (b == want)
    | .tup [] => some false
    | _ => none
/-- A region that is gone through in the text's order. -/
def RG (P : Program) (base : Nat) : List AOper → Nat → (AF → St → Prop) → AF → St → Prop
  | [], _, K, a, S => K a S
  | o :: os, i, K, a, S =>
    match gd o a with
    | none => False
    | some false => RG P base os (i + 1) K (a.put o.dst (.tup [])) S
    | some true => match o.call with
      | some (G, xs) => match G.ev a with
        | .clo f first cap => CallR P f (first ++ xs.map (·.ev a) ++ cap) S fun r S' => RG P base os (i + 1) K (a.put o.dst r) S'
        | _ => False
      | none => match (ex o.op a).run S (base + i) with
        | some (v, S') => RG P base os (i + 1) K (a.put o.dst v) S'
        | none => nilG o.op a fun v => RG P base os (i + 1) K (a.put o.dst v) S
def cguard (ops : Array Oper) (o : Oper) : Option (Option (Nat × Bool)) :=
  match o.guard with
  | none => some none
  | some (j, want) => ((ops[j]?).bind (·.dst)).map fun d => some (d, want)
def dstOk (n : Nat) : Option Nat → Bool
  | none => true
  | some d => decide (d < n)
def ccl : Op → Option (Opd × List Opd)
  | .call ⟨.value g, xs, _⟩ => (ofOperand g).bind fun G => (copnds xs).map fun XS => (G, XS)
  | _ => none
def cOper (P : Program) (n : Nat) (ops : Array Oper) (o : Oper) : Option AOper :=
  if dstOk n o.dst = true then
    match ccl o.op with
    | some p => (cguard ops o).map fun g => ⟨o.dst, .mv (.c .junk), g, some p⟩
    | none => (cop P o.op).bind fun op => (cguard ops o).map fun g => ⟨o.dst, op, g, none⟩
  else none
theorem cOper_inv {P : Program} {n : Nat} {ops : Array Oper} {o : Oper} {ao : AOper} (h : cOper P n ops o = some ao) :
    (∀ d, o.dst = some d → d < n) ∧ ao.dst = o.dst ∧ cguard ops o = some ao.guard ∧ ((∃ p, ao.call = some p ∧ ccl o.op = some p) ∨ (ao.call = none ∧ cop P o.op = some ao.op)) := by
  unfold cOper at h
  split at h
  · rename_i hd
    have hd' : ∀ d, o.dst = some d → d < n := fun d e => by rw [e] at hd; simpa [dstOk] using hd
    split at h
    · rename_i p hp
      simp only [Option.map_eq_some_iff] at h
      obtain ⟨g, h2, rfl⟩ := h
      exact ⟨hd', rfl, h2, .inl ⟨p, rfl, hp⟩⟩
    · simp only [Option.bind_eq_some_iff, Option.map_eq_some_iff] at h
      obtain ⟨op, h1, g, h2, rfl⟩ := h
      exact ⟨hd', rfl, h2, .inr ⟨rfl, h1⟩⟩
  · cases h
theorem rep_undef {E : Env} : Rep E (.tup []) undef := .tup [] #[] rfl (by simp)
theorem rep_undef_inv {E : Env} {v : Value} (h : Rep E (.tup []) v) : v = undef := by
  cases h with
  | tup _ vs hn _ => have : vs = #[] := Array.eq_empty_of_size_eq_zero (by simpa using hn); subst this; rfl
theorem gd_wanted {E : Env} {n : Nat} {a : AF} {act : Act} (hF : RepF E n a act) {ops : Array Oper} {o : Oper} {ao : AOper} (hg : cguard ops o = some ao.guard) {b : Bool} (h : gd ao a = some b) :
    Region.wanted o (yielded ops act.tmps) = b := by
  unfold cguard at hg
  unfold gd at h
  split at hg
  · rename_i hgo
    simp only [Option.some.injEq] at hg
    rw [← hg] at h
    simp only [Option.some.injEq] at h
    subst h
    simp [Region.wanted, hgo]
  · rename_i j want hgo
    simp only [Option.map_eq_some_iff] at hg
    obtain ⟨d, hd, hg⟩ := hg
    rw [← hg] at h
    simp only at h
    split at h
    · rename_i c hc
      have r := hF.at_ d
      rw [hc] at r
      have e := r.v_inv
      simp only [Option.some.injEq] at h
      subst h
      have ht : act.tmps[d]? = some (.bool c) := by
        simp only [Array.getD_eq_getD_getElem?] at e
        cases hq : act.tmps[d]? with
        | none => rw [hq] at e; simp [undef] at e
        | some u => rw [hq] at e; simpa using e
      simp [Region.wanted, hgo, yielded, hd, ht]
    · rename_i hc
      have r := hF.at_ d
      rw [hc] at r
      have e := rep_undef_inv r
      simp only [Option.some.injEq] at h
      subst h
      cases hq : act.tmps[d]? with
      | none => simp [Region.wanted, hgo, yielded, hd, hq]
      | some u =>
        have : u = undef := by simpa [Array.getD_eq_getD_getElem?, hq] using e
        subst this
        simp [Region.wanted, hgo, yielded, hd, hq, undef]
    · cases h
theorem reps_operands {E : Env} {n : Nat} {a : AF} {act : Act} (hF : RepF E n a act) {xs : Array Operand} {XS : List Opd} (h : copnds xs = some XS) : Reps E (XS.map (·.ev a)) (xs.map act.eval) := by
  have key : ∀ (l : List Operand) (ys : List Opd), l.mapM ofOperand = some ys → ys.length = l.length ∧ ∀ j (h : j < (ys.map (·.ev a)).length), Rep E ((ys.map (·.ev a))[j]) ((l.map act.eval).getD j undef) := by
    intro l
    induction l with
    | nil => intro ys h; simp at h; subst h; simp
    | cons x l ih =>
      intro ys h
      simp only [List.mapM_cons, Option.bind_eq_bind, Option.bind_eq_some_iff, Option.pure_def, Option.some.injEq] at h
      obtain ⟨y, hy, zs, hz, rfl⟩ := h
      obtain ⟨h1, h2⟩ := ih zs hz
      refine ⟨by simp [h1], fun j hj => ?_⟩
      cases j with
      | zero => simpa using ofOperand_ok hF hy
      | succ j =>
        have := h2 j (by simpa using hj)
        rw [List.getElem_map] at this
        simpa using this
  obtain ⟨h1, h2⟩ := key _ _ h
  refine ⟨by simp [h1], fun j hj => ?_⟩
  have := h2 j hj
  simpa [Array.getD_eq_getD_getElem?, List.getD_eq_getElem?_getD] using this
theorem Reps.append {E : Env} {xs ys : List AV} {us vs : Array Value} (h : Reps E xs us) (k : Reps E ys vs) : Reps E (xs ++ ys) (us ++ vs) := by
  refine ⟨by simp [h.1, k.1], fun j hj => ?_⟩
  have h1 := h.1
  by_cases hl : j < xs.length
  · have := h.2 j hl
    rw [List.getElem_append_left hl]
    simp only [Array.getD_eq_getD_getElem?] at this ⊢
    rw [Array.getElem?_append_left (by omega)]; exact this
  · have := k.2 (j - xs.length) (by simp at hj; omega)
    rw [List.getElem_append_right (by omega)]
    simp only [Array.getD_eq_getD_getElem?] at this ⊢
    rw [Array.getElem?_append_right (by omega), h1]; exact this
/-- A call's operation. -/
theorem callOp_ok {P : Program} {n : Nat} {o : Oper} {a : AF} {S : St} (hd : ∀ d, o.dst = some d → d < n) {f : FuncId} {args : List AV} {K : AV → St → Prop} (h : CallR P f args S K)
    {E : Env} {w : World} {act : Act} (hG : Gam P E.H) (hS : Sim E S w) (hF : RepF E n a act) {vals : Array Value} (hv : Reps E args vals) (hrun : (execOp act.eval o).run P w = .ok (.enter f vals) w)
    {KK : Act → World → Prop} {Q : Exit → Act → World → Prop} (hK : ∀ r S' act' w' E', K r S' → Sim E' S' w' → RepF E' n (a.put o.dst r) act' → Ev E S w E' S' w' → KK act' w') : o.wp P act w KK Q := by
  unfold Oper.wp
  rw [hrun, Oper.upon_enter]
  refine (h.2 E w vals hG hS hv).mono ?_
  rintro e w' ⟨v, r, S', E', rfl, hk, hS', hr, hev⟩
  exact hK r S' _ w' E' hk hS' ((hF.mono hev.evo.le).put hd hr) hev
theorem run_resolve_func {P : Program} (ρ : Operand → Value) (f : Operand) (xs : Array Operand) (ts : Array TypeId) (t : TypeId) {g : FuncId} {first cap : Array Value} (h : ρ f = .func (.func g) first cap) (w : World) :
    (resolve ρ ⟨.value f, xs, ts⟩ t).run P w = .ok { target := .fn (.func g) cap, args := first ++ xs.map ρ } w := by
  simp only [resolve, h, Deferred.ofValue]
  rfl
theorem rg_sound {P : Program} {n : Nat} {ops : Array Oper} {base : Nat} {Q : Exit → AF → St → Prop} {E0 : Env} {S0 : St} {w0 : World} (hG0 : Gam P E0.H) (hb : S0.n ≤ base) :
    ∀ (os : List AOper) (i : Nat) (a : AF) (S : St), (∀ k (hk : k < os.length), ∃ o, ops[i + k]? = some o ∧ cOper P n ops o = some (os[k])) → RG P base os i (fun a S => Q .normal a S) a S →
      ∀ E w act, Sim E S w → RepF E n a act → (∀ k, i ≤ k → k < i + os.length → E.ρ (base + k) = none ∧ base + k < S.n) → Ev E0 S0 w0 E S w →
        wpOps P ops (Post E0 S0 w0 n Q) (List.range' i os.length) act w
  | [], i, a, S, _, h, E, w, act, hS, hF, _, hE => ⟨a, S, E, h, hS, hF, hE⟩
  | ao :: os, i, a, S, hc, h, E, w, act, hS, hF, hr, hE => by
    obtain ⟨o, ho, hco⟩ := hc 0 (by simp)
    simp only [Nat.add_zero, List.getElem_cons_zero] at ho hco
    obtain ⟨hd, hdst, hgd, hor⟩ := cOper_inv hco
    have hc' : ∀ k (hk : k < os.length), ∃ o, ops[i + 1 + k]? = some o ∧ cOper P n ops o = some (os[k]) := by
      intro k hk
      obtain ⟨o', h1, h2⟩ := hc (k + 1) (by simpa using hk)
      exact ⟨o', by rw [← h1]; congr 1; omega, by simpa using h2⟩
    have hr0 := hr i (Nat.le_refl _) (by simp)
    simp only [List.length_cons, List.range'_succ, wpOps, ho]
    simp only [RG] at h
    split at h
    · exact h.elim
    · rename_i hg
      rw [gd_wanted hF hgd hg]
      simp only [Bool.false_eq_true, if_false]
      rw [hdst] at h
      exact rg_sound hG0 hb os (i + 1) _ S hc' h E w _ hS (hF.put hd rep_undef) (fun k h1 h2 => hr k (by omega) (by simp; omega)) hE
    · rename_i hg
      rw [gd_wanted hF hgd hg]
      simp only [if_true]
      left
      rw [hdst] at h
      have next : ∀ {r : AV} {S' : St} {act' : Act} {w' : World} {E' : Env}, RG P base os (i + 1) (fun a S => Q .normal a S) (a.put o.dst r) S' → Sim E' S' w' → RepF E' n (a.put o.dst r) act' → Ev E0 S0 w0 E' S' w' →
          (∀ k, i < k → k < i + (os.length + 1) → E'.ρ (base + k) = none ∧ base + k < S'.n) → wpOps P ops (Post E0 S0 w0 n Q) (List.range' (i + 1) os.length) act' w' :=
        fun h1 h2 h3 h4 h5 => rg_sound hG0 hb os (i + 1) _ _ hc' h1 _ _ _ h2 h3 (fun k a1 a2 => h5 k (by omega) (by omega)) h4
      have hcall : ∀ {f : FuncId} {args : List AV} {vals : Array Value}, CallR P f args S (fun r S' => RG P base os (i + 1) (fun a S => Q .normal a S) (a.put o.dst r) S') → Reps E args vals →
          (execOp act.eval o).run P w = .ok (.enter f vals) w → o.wp P act w (wpOps P ops (Post E0 S0 w0 n Q) (List.range' (i + 1) os.length)) (Post E0 S0 w0 n Q) := by
        intro f args vals h1 h2 h3
        refine callOp_ok hd h1 (hG0.le hE.evo.le) hS hF h2 h3 fun r S' act' w' E' k1 k2 k3 k4 => next k1 k2 k3 (hE.trans k4) fun k a1 a2 => ?_
        obtain ⟨b1, b2⟩ := hr k (by omega) (by simp; omega)
        exact ⟨k4.low _ b2 b1, Nat.lt_of_lt_of_le b2 k4.nle⟩
      rcases hor with ⟨p, hp1, hp2⟩ | ⟨hp1, hop⟩
      · -- a call
        rw [hp1] at h
        obtain ⟨G, xs⟩ := p
        simp only at h
        unfold ccl at hp2
        split at hp2
        · rename_i g ys ts hoo
          simp only [Option.bind_eq_some_iff, Option.map_eq_some_iff, Prod.mk.injEq] at hp2
          obtain ⟨G', hG, XS, hXS, rfl, rfl⟩ := hp2
          have rg := ofOperand_ok hF hG
          split at h
          · rename_i f first cap hclo
            rw [hclo] at rg
            generalize hev : act.eval g = gv at rg
            cases rg with
            | clo _ _ _ fv cv hn hm hf hcc =>
              have hx := reps_operands hF hXS
              have hargs : Reps E (first ++ XS.map (·.ev a) ++ cap) (fv ++ ys.map act.eval ++ cv) := (Reps.append ⟨hn, hf⟩ hx).append ⟨hm, hcc⟩
              refine hcall h hargs ?_
              simp only [execOp, hoo, Sem.run_bind, run_resolve_func act.eval g ys ts o.type hev, Result.andThen_ok, invoke]
              exact run_callFunc h.1 _ _
          · exact h.elim
        · cases hp2
      · rw [hp1] at h
        simp only at h
        split at h
        · rename_i v S' hex
          have hok := cop_ok (P := P) (n := n) (o := o) hd hop hex
          have hn := Eff.run_n hex
          refine hok E w act hS hF hr0.1 hr0.2 _ _ fun act' w' E' k1 k2 k3 k4 => next h k1 k2 ⟨hE.evo.trans k3, by have := hE.nle; omega, fun id hid e => k4.2 id (by omega) (hE.low id hid e)⟩ fun k a1 a2 => ?_
          · obtain ⟨b1, b2⟩ := hr k (by omega) (by simp; omega)
            exact ⟨k4.2 _ (by omega) b1, by omega⟩
        · obtain ⟨b, g1, g2⟩ := nilG_ok hop h hF w
          unfold Oper.wp
          rw [g2, Oper.upon_value]
          exact next g1 hS (hF.put hd (.v _ rfl)) hE fun k a1 a2 => hr k (by omega) (by simp; omega)
end Go.Rf

