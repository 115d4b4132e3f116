import Derived.Test.YtpinfihfbjkijaaDoorRfSeq
/- Own work: regions that may panic, and calls that may end so. -/
set_option linter.unusedVariables false
set_option linter.unusedSimpArgs false
namespace Go.Rf
open Go.RowKit

/-- A call that returns, or panics. -/
def CallX (P : Program) (f : FuncId) (args : List AV) (S : St) (K : AV → St → Prop) (X : Value → St → Prop) : Prop :=
  Callable P f ∧ ∀ E w vals, Sim E S w → Reps E args vals →
    Calls P f vals w fun e w' => ∃ S' E', Sim E' S' w' ∧ Ev E S w E' S' w' ∧ ((∃ v r, e = .returned v ∧ K r S' ∧ Rep E' r v) ∨ ∃ v, e = .panicked [{ v, recovered := false }] ∧ X v S')
theorem CallX.mono {P : Program} {f : FuncId} {args : List AV} {S : St} {K K' : AV → St → Prop} {X X' : Value → St → Prop} (h : CallX P f args S K X) (hk : ∀ r S', K r S' → K' r S') (hx : ∀ v S', X v S' → X' v S') : CallX P f args S K' X' :=
  ⟨h.1, fun E w vals h1 h2 => (h.2 E w vals h1 h2).mono fun e w' ⟨S', E', a, b, c⟩ => ⟨S', E', a, b, c.imp (fun ⟨v, r, x, y, z⟩ => ⟨v, r, x, hk _ _ y, z⟩) fun ⟨v, x, y⟩ => ⟨v, x, hx _ _ y⟩⟩⟩
theorem CallX.ofR {P : Program} {f : FuncId} {args : List AV} {S : St} {K : AV → St → Prop} {X : Value → St → Prop} (h : CallR P f args S K) : CallX P f args S K X :=
  ⟨h.1, fun E w vals h1 h2 => (h.2 E w vals h1 h2).mono fun e w' ⟨v, r, S', E', a, b, c, d, f⟩ => ⟨S', E', c, f, .inl ⟨v, r, a, b, d⟩⟩⟩
def pn (v : Value) : Exit := .panic [{ v, recovered := false }]
/-- A region in the text's order; its end: the panic, if there is one. -/
def RGX (P : Program) (base : Nat) (p : Option Opd) : List AOper → Nat → (Exit → AF → St → Prop) → AF → St → Prop
  | [], _, Q, a, S => match p with
    | none => Q .normal a S
    | some x => match x.ev a with
      | .v (.iface t y) => Q (pn (.iface t y)) a S
      | _ => False
  | o :: os, i, Q, a, S =>
    match gd o a with
    | none => False
    | some false => RGX P base p os (i + 1) Q (a.put o.dst (.tup [])) S
    | some true => match o.call with
      | some (G, xs) => match G.ev a with
        | .clo f first cap => CallX P f (first ++ xs.map (·.ev a) ++ cap) S (fun r S' => RGX P base p os (i + 1) Q (a.put o.dst r) S') fun v S' => Q (pn v) a S'
        | _ => False
      | none => match (ex o.op a).run S (base + i) with
        | some (v, S') => RGX P base p os (i + 1) Q (a.put o.dst v) S'
        | none => nilG o.op a fun v => RGX P base p os (i + 1) Q (a.put o.dst v) S
theorem RGX_mono {P : Program} {base : Nat} {p : Option Opd} : ∀ (os : List AOper) (i : Nat) {Q Q' : Exit → AF → St → Prop} {a : AF} {S : St}, (∀ e a S, Q e a S → Q' e a S) → RGX P base p os i Q a S → RGX P base p os i Q' a S
  | [], i, Q, Q', a, S, hk, h => by
    cases p with
    | none => exact hk _ _ _ h
    | some x =>
      simp only [RGX] at h ⊢
      split at h
      · exact hk _ _ _ h
      · exact h.elim
  | o :: os, i, Q, Q', a, S, hk, h => by
    simp only [RGX] at h ⊢
    split at h
    · exact h.elim
    · exact RGX_mono os (i + 1) hk h
    · split at h
      · split at h
        · exact h.mono (fun r S' h' => RGX_mono os (i + 1) hk h') fun v S' h' => hk _ _ _ h'
        · exact h.elim
      · split at h
        · exact RGX_mono os (i + 1) hk h
        · exact nilG_mono (fun v hv => RGX_mono os (i + 1) hk hv) h
theorem RGX_of_RG {P : Program} {base : Nat} {Q : Exit → AF → St → Prop} : ∀ (os : List AOper) (i : Nat) {a : AF} {S : St}, RG P base os i (fun a S => Q .normal a S) a S → RGX P base none os i Q a S
  | [], i, a, S, h => h
  | o :: os, i, a, S, h => by
    simp only [RG] at h
    simp only [RGX]
    cases hg : gd o a with
    | none => rw [hg] at h; exact h
    | some b =>
      rw [hg] at h
      cases b with
      | false => exact RGX_of_RG os (i + 1) h
      | true =>
        simp only at h ⊢
        cases hc : o.call with
        | some p =>
          rw [hc] at h
          obtain ⟨G, xs⟩ := p
          simp only at h ⊢
          cases hG : G.ev a with
          | clo f first cap => rw [hG] at h; exact .ofR (h.mono fun r S' h' => RGX_of_RG os (i + 1) h')
          | _ => rw [hG] at h; exact h
        | none =>
          rw [hc] at h
          simp only at h ⊢
          cases hr : (ex o.op a).run S (base + i) with
          | some p => rw [hr] at h; exact RGX_of_RG os (i + 1) h
          | none => rw [hr] at h; exact nilG_mono (fun v hv => RGX_of_RG os (i + 1) hv) h
theorem callOp_okX {P : Program} {n : Nat} {o : Oper} {a : AF} {S : St} (hd : ∀ d, o.dst = some d → d < n) {f : FuncId} {args : List AV} {K : AV → St → Prop} {X : Value → St → Prop} (h : CallX P f args S K X)
    {E : Env} {w : World} {act : Act} (hS : Sim E S w) (hF : RepF E n a act) {vals : Array Value} (hv : Reps E args vals) (hrun : (execOp act.eval o).run P w = .ok (.enter f vals) w)
    {KK : Act → World → Prop} {Q : Exit → Act → World → Prop} (hK : ∀ r S' act' w' E', K r S' → Sim E' S' w' → RepF E' n (a.put o.dst r) act' → Ev E S w E' S' w' → KK act' w')
    (hX : ∀ v S' w' E', X v S' → Sim E' S' w' → RepF E' n a act → Ev E S w E' S' w' → Q (pn v) act w') : o.wp P act w KK Q := by
  unfold Oper.wp
  rw [hrun, Oper.upon_enter]
  refine (h.2 E w vals hS hv).mono ?_
  rintro e w' ⟨S', E', hS', hev, ⟨v, r, rfl, hk, hr⟩ | ⟨v, rfl, hx⟩⟩
  · exact hK r S' _ w' E' hk hS' ((hF.mono hev.evo.le).put hd hr) hev
  · exact hX v S' w' E' hx hS' (hF.mono hev.evo.le) hev
theorem rgx_sound {P : Program} {n : Nat} {ops : Array Oper} {base : Nat} {p : Option Opd} {Q : Exit → AF → St → Prop} {E0 : Env} {S0 : St} {w0 : World} (hb : S0.n ≤ base) :
    ∀ (os : List AOper) (i : Nat) (a : AF) (S : St), (∀ k (hk : k < os.length), ∃ o, ops[i + k]? = some o ∧ cOper P n ops o = some (os[k])) →
      (∀ X, p = some X → ∃ o x, ops[i + os.length]? = some o ∧ o.op = .panic x ∧ ofOperand x = some X ∧ o.guard = none) → RGX P base p os i Q a S →
      ∀ E w act, Sim E S w → RepF E n a act → (∀ k, i ≤ k → k < i + os.length → E.ρ (base + k) = none ∧ base + k < S.n) → Ev E0 S0 w0 E S w →
        wpOps P ops (Post E0 S0 w0 n Q) (List.range' i (os.length + p.toList.length)) act w
  | [], i, a, S, _, ht, h, E, w, act, hS, hF, _, hE => by
    cases p with
    | none => exact ⟨a, S, E, h, hS, hF, hE⟩
    | some X =>
      obtain ⟨o, x, ho, hop, hx, hg⟩ := ht X rfl
      simp only [RGX] at h
      simp only [List.length_nil, Nat.zero_add, Option.toList_some, List.length_cons, List.range'_succ, List.range'_zero, wpOps]
      simp only [List.length_nil, Nat.add_zero] at ho
      rw [ho]
      simp only [Region.wanted, hg]
      split at h
      · rename_i t y hxe
        have rx := ofOperand_ok hF hx
        rw [hxe] at rx
        have e := rx.v_inv
        rw [if_pos trivial]
        left
        unfold Oper.wp
        have hrun : (execOp act.eval o).run P w = .halt (.panic (.iface t y)) w := by
          simp only [execOp, hop, e, Instr.panic]
          rfl
        rw [hrun, Oper.upon_panic]
        exact ⟨a, S, E, h, hS, hF, hE⟩
      · exact h.elim
  | ao :: os, i, a, S, hc, ht, h, E, w, act, hS, hF, hr, hE => by
    obtain ⟨o, ho, hco⟩ := hc 0 (by simp)
    simp only [Nat.add_zero, List.getElem_cons_zero] at ho hco
    obtain ⟨hd, hdst, hgd, hor⟩ := cOper_inv hco
    have hc' : ∀ k (hk : k < os.length), ∃ o, ops[i + 1 + k]? = some o ∧ cOper P n ops o = some (os[k]) := by
      intro k hk
      obtain ⟨o', h1, h2⟩ := hc (k + 1) (by simpa using hk)
      exact ⟨o', by rw [← h1]; congr 1; omega, by simpa using h2⟩
    have ht' : ∀ X, p = some X → ∃ o x, ops[i + 1 + os.length]? = some o ∧ o.op = .panic x ∧ ofOperand x = some X ∧ o.guard = none := by
      intro X hX
      obtain ⟨o', x, h1, h2⟩ := ht X hX
      refine ⟨o', x, ?_, h2⟩
      rw [← h1]; congr 1
      simp only [List.length_cons]; omega
    have hr0 := hr i (Nat.le_refl _) (by simp)
    have hlen : (ao :: os).length + p.toList.length = (os.length + p.toList.length) + 1 := by simp only [List.length_cons]; omega
    rw [hlen]
    simp only [List.range'_succ, wpOps, ho]
    simp only [RGX] at h
    split at h
    · exact h.elim
    · rename_i hg
      rw [gd_wanted hF hgd hg]
      simp only [Bool.false_eq_true, if_false]
      rw [hdst] at h
      exact rgx_sound hb os (i + 1) _ S hc' ht' h E w _ hS (hF.put hd rep_undef) (fun k h1 h2 => hr k (by omega) (by simp; omega)) hE
    · rename_i hg
      rw [gd_wanted hF hgd hg]
      simp only [if_true]
      left
      rw [hdst] at h
      have next : ∀ {r : AV} {S' : St} {act' : Act} {w' : World} {E' : Env}, RGX P base p os (i + 1) Q (a.put o.dst r) S' → Sim E' S' w' → RepF E' n (a.put o.dst r) act' → Ev E0 S0 w0 E' S' w' →
          (∀ k, i < k → k < i + (os.length + 1) → E'.ρ (base + k) = none ∧ base + k < S'.n) → wpOps P ops (Post E0 S0 w0 n Q) (List.range' (i + 1) (os.length + p.toList.length)) act' w' :=
        fun h1 h2 h3 h4 h5 => rgx_sound hb os (i + 1) _ _ hc' ht' h1 _ _ _ h2 h3 (fun k a1 a2 => h5 k (by omega) (by omega)) h4
      have hcall : ∀ {f : FuncId} {args : List AV} {vals : Array Value}, CallX P f args S (fun r S' => RGX P base p os (i + 1) Q (a.put o.dst r) S') (fun v S' => Q (pn v) a S') → Reps E args vals →
          (execOp act.eval o).run P w = .ok (.enter f vals) w → o.wp P act w (wpOps P ops (Post E0 S0 w0 n Q) (List.range' (i + 1) (os.length + p.toList.length))) (Post E0 S0 w0 n Q) := by
        intro f args vals h1 h2 h3
        refine callOp_okX hd h1 hS hF h2 h3 (fun r S' act' w' E' k1 k2 k3 k4 => next k1 k2 k3 (hE.trans k4) fun k a1 a2 => ?_) (fun v S' w' E' k1 k2 k3 k4 => ⟨a, S', E', k1, k2, k3, hE.trans k4⟩)
        obtain ⟨b1, b2⟩ := hr k (by omega) (by simp; omega)
        exact ⟨k4.low _ b2 b1, Nat.lt_of_lt_of_le b2 k4.nle⟩
      rcases hor with ⟨q, hp1, hp2⟩ | ⟨hp1, hop⟩
      · -- a call
        rw [hp1] at h
        obtain ⟨G, xs⟩ := q
        simp only at h
        unfold ccl at hp2
        split at hp2
        · rename_i g ys ts hoo
          simp only [Option.bind_eq_some_iff, Option.map_eq_some_iff, Prod.mk.injEq] at hp2
          obtain ⟨G', hG, XS, hXS, rfl, rfl⟩ := hp2
          have rg := ofOperand_ok hF hG
          split at h
          · rename_i f first cap hclo
            rw [hclo] at rg
            generalize hev : act.eval g = gv at rg
            cases rg with
            | clo _ _ _ fv cv hn hm hf hcc =>
              have hx := reps_operands hF hXS
              have hargs : Reps E (first ++ XS.map (·.ev a) ++ cap) (fv ++ ys.map act.eval ++ cv) := (Reps.append ⟨hn, hf⟩ hx).append ⟨hm, hcc⟩
              refine hcall h hargs ?_
              simp only [execOp, hoo, Sem.run_bind, run_resolve_func act.eval g ys ts o.type hev, Result.andThen_ok, invoke]
              exact run_callFunc h.1 _ _
          · exact h.elim
        · cases hp2
      · rw [hp1] at h
        simp only at h
        split at h
        · rename_i v S' hex
          have hok := cop_ok (P := P) (n := n) (o := o) hd hop hex
          have hn := Eff.run_n hex
          refine hok E w act hS hF hr0.1 hr0.2 _ _ fun act' w' E' k1 k2 k3 k4 => next h k1 k2 ⟨hE.evo.trans k3, by have := hE.nle; omega, fun id hid e => k4.2 id (by omega) (hE.low id hid e)⟩ fun k a1 a2 => ?_
          · obtain ⟨b1, b2⟩ := hr k (by omega) (by simp; omega)
            exact ⟨k4.2 _ (by omega) b1, by omega⟩
        · obtain ⟨b, g1, g2⟩ := nilG_ok hop h hF w
          unfold Oper.wp
          rw [g2, Oper.upon_value]
          exact next g1 hS (hF.put hd (.v _ rfl)) hE fun k a1 a2 => hr k (by omega) (by simp; omega)
end Go.Rf

