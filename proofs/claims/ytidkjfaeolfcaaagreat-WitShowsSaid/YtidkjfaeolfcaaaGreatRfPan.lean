import Derived.Test.YtidkjfaeolfcaaaGreatRfDraw
/- Own work: a region that draws its order, with calls that write: each call is ordered against all that looks at what it writes. -/
set_option linter.unusedVariables false
set_option linter.unusedSimpArgs false
namespace Go.Rf
open Go.RowKit

def notNq : AOp → Bool
  | .nilq _ _ _ => false
  | _ => true
/-- An operation that changes nothing. -/
def quietN (o : AOper) : Bool := o.call.isNone && !mayW o.op && notNq o.op
/-- An operation on slots alone that always goes. -/
def slotT (o : AOper) : Bool := o.guard.isNone && o.call.isNone && (match o.op with | .mv _ | .mkf _ _ _ => true | _ => false)
def stv (o : AOper) (a : AF) : AV := match o.op with
  | .mv x => x.ev a
  | .mkf f first cap => .clo f (first.map (·.ev a)) (cap.map (·.ev a))
  | _ => .junk
def Fq (o : AOper) (a : AF) : List Nat := if quietN o = true then (match gd o a with | some true => (ex o.op a).F | _ => []) else []
def Kept (w : List Nat) (g g' : Nat → Option Blk) : List (Nat × List Nat) → Prop
  | [] => True
  | (i, F) :: T => (if w.contains i = true then ∀ j ∈ F, g' j = g j else True) ∧ Kept w g g' T
theorem kept_iff {w : List Nat} {g g' : Nat → Option Blk} : ∀ {T : List (Nat × List Nat)}, Kept w g g' T ↔ ∀ p ∈ T, p.1 ∈ w → ∀ j ∈ p.2, g' j = g j
  | [] => by simp [Kept]
  | (i, F) :: T => by
    unfold Kept
    rw [kept_iff (T := T)]
    by_cases h : i ∈ w
    · simp [h]
    · simp [h]
def StpS (P : Program) (base i : Nat) (o : AOper) (w : List Nat) (T : List (Nat × List Nat)) (R : AV → St → Prop) (a : AF) (S : St) : Prop :=
  match gd o a with
  | none => False
  | some false => R (.tup []) S
  | some true => match o.call with
    | some (G, xs) => match G.ev a with
      | .clo f first cap => CallR P f (first ++ xs.map (·.ev a) ++ cap) S fun r S' => Kept w S.g S'.g T ∧ R r S'
      | _ => False
    | none => match (ex o.op a).run S (base + i) with
      | some (v, S') => R v S'
      | none => nilG o.op a fun v => R v S
abbrev SOp := Nat × AOper × List Nat
def RSp (P : Program) (base : Nat) : List SOp → List (Nat × List Nat) → (AF → St → Prop) → AF → St → Prop
  | [], _, K, a, S => K a S
  | (i, o, w) :: l, T, K, a, S => StpS P base i o w T (fun v S' => RSp P base l ((i, Fq o a) :: T) K (a.put o.dst v) S') a S
section
variable {P : Program} {base i : Nat} {o : AOper} {w : List Nat} {T T' : List (Nat × List Nat)} {R R' : AV → St → Prop} {a b : AF} {S : St}
theorem StpS.mono (hk : ∀ v S, R v S → R' v S) (h : StpS P base i o w T R a S) : StpS P base i o w T R' a S := by
  unfold StpS at h ⊢
  split at h
  · exact h.elim
  · exact hk _ _ h
  · split at h
    · split at h
      · exact h.mono fun r S' k => ⟨k.1, hk _ _ k.2⟩
      · exact h.elim
    · split at h
      · exact hk _ _ h
      · exact nilG_mono (fun v hv => hk _ _ hv) h
theorem StpS.watch (hT : ∀ p ∈ T', p.2 = [] ∨ p ∈ T) (h : StpS P base i o w T R a S) : StpS P base i o w T' R a S := by
  unfold StpS at h ⊢
  split at h
  · exact h
  · exact h
  · split at h
    · split at h
      · refine h.mono fun r S' k => ⟨kept_iff.mpr fun p hp hw j hj => ?_, k.2⟩
        rcases hT p hp with h1 | h1
        · rw [h1] at hj; simp at hj
        · exact kept_iff.mp k.1 p h1 hw j hj
      · exact h.elim
    · exact h
theorem StpS.eq_of (ha : ∀ t ∈ o.rds, a t = b t) (h : StpS P base i o w T R a S) : StpS P base i o w T R b S := by
  have hg := gd_eq (o := o) ha
  unfold StpS at h ⊢
  rw [← hg]
  split at h
  · exact h
  · exact h
  · split at h
    · rename_i G xs hc
      have hrd : ∀ t ∈ G.rds ++ xs.flatMap Opd.rds, a t = b t := fun t ht => ha t (by simp only [AOper.rds, hc, List.mem_append]; exact .inr (by simpa using ht))
      have e1 : G.ev b = G.ev a := (ev_eq (fun t ht => hrd t (by simp [ht]))).symm
      have e2 : xs.map (·.ev b) = xs.map (·.ev a) := (evL_eq (fun t ht => hrd t (List.mem_append.mpr (.inr ht)))).symm
      rw [e1, e2]
      exact h
    · rename_i hc
      have hrd : ∀ t ∈ o.op.rds, a t = b t := fun t ht => ha t (by simp only [AOper.rds, hc, List.mem_append]; exact .inr ht)
      have he : ex o.op b = ex o.op a := (ex_eq hrd).symm
      rw [he]
      split at h
      · exact h
      · unfold nilG at h ⊢
        split
        · rename_i neg x hop
          rw [hop] at h hrd
          simp only at h
          have : x.ev b = x.ev a := (ev_eq (fun t ht => hrd t (by simpa [AOp.rds] using ht))).symm
          rw [this]; exact h
        · rename_i hop
          split at h
          · rename_i neg x hop2; exact (hop _ _ hop2).elim
          · exact h
theorem Fq_eq (ha : ∀ t ∈ o.rds, a t = b t) : Fq o a = Fq o b := by
  unfold Fq
  by_cases hq : quietN o = true
  · rw [if_pos hq, if_pos hq, gd_eq ha]
    simp only [quietN, Bool.and_eq_true] at hq
    have hc : o.call = none := by simpa using hq.1.1
    have he : ex o.op a = ex o.op b := ex_eq (fun t ht => ha t (by simp only [AOper.rds, hc, List.mem_append]; exact .inr ht))
    rw [he]
  · rw [if_neg hq, if_neg hq]
def qv (base i : Nat) (o : AOper) (a : AF) (S : St) : Option AV := match gd o a with
  | none => none
  | some false => some (.tup [])
  | some true => ((ex o.op a).run S (base + i)).map Prod.fst
theorem nilG_not {op : AOp} (h : notNq op = true) {k : AV → Prop} (hn : nilG op a k) : False := by
  unfold nilG at hn
  split at hn
  · simp [notNq] at h
  · exact hn
theorem setL_nil (F : List Nat) (S : St) : S.setL F [] = S := by cases F <;> rfl
theorem StpS_quiet (hq : quietN o = true) : StpS P base i o w T R a S ↔ ∃ v, qv base i o a S = some v ∧ R v S := by
  have hq' := hq
  simp only [quietN, Bool.and_eq_true, Bool.not_eq_true'] at hq'
  obtain ⟨⟨hc, hm⟩, hn⟩ := hq'
  have hc : o.call = none := by simpa using hc
  unfold StpS qv
  cases hg : gd o a with
  | none => simp
  | some b =>
    cases b with
    | false => simp
    | true =>
      simp only [hc]
      cases hr : (ex o.op a).run S (base + i) with
      | none =>
        simp only [Option.map_none]
        constructor
        · intro h; exact (nilG_not hn h).elim
        · rintro ⟨v, h, _⟩; cases h
      | some p =>
        obtain ⟨v, S'⟩ := p
        have hS : S' = S := by
          unfold Eff.run at hr
          split at hr
          · cases hr
          · split at hr
            · cases hr
            · rename_i out hout
              obtain ⟨q1, q2⟩ := quiet_op hm hout
              simp only [Option.some.injEq, Prod.mk.injEq] at hr
              obtain ⟨_, rfl⟩ := hr
              rw [q1, q2, setL_nil]; rfl
        subst hS
        simp
theorem qv_eq {S' : St} (hq : quietN o = true) (ha : ∀ t ∈ o.rds, a t = b t) (hS : ∀ j ∈ Fq o a, S'.g j = S.g j) : qv base i o b S' = qv base i o a S := by
  have hq' := hq
  simp only [quietN, Bool.and_eq_true, Bool.not_eq_true'] at hq'
  obtain ⟨⟨hc, hm⟩, hn⟩ := hq'
  have hc : o.call = none := by simpa using hc
  have he : ex o.op b = ex o.op a := (ex_eq (fun t ht => ha t (by simp only [AOper.rds, hc, List.mem_append]; exact .inr ht))).symm
  unfold qv
  rw [← gd_eq ha, he]
  cases hg : gd o a with
  | none => rfl
  | some c =>
    cases c with
    | false => rfl
    | true =>
      simp only
      have hF : Fq o a = (ex o.op a).F := by unfold Fq; rw [if_pos hq, hg]
      rw [hF] at hS
      unfold Eff.run
      rw [mapM_agree hS]
      cases (ex o.op a).F.mapM S.g with
      | none => rfl
      | some bs =>
        simp only
        cases (ex o.op a).k bs <;> rfl
theorem slotT_quiet (h : slotT o = true) : quietN o = true := by
  simp only [slotT, Bool.and_eq_true] at h
  obtain ⟨⟨h1, h2⟩, h3⟩ := h
  simp only [quietN, Bool.and_eq_true, h2, true_and, Bool.not_eq_true']
  cases ho : o.op <;> rw [ho] at h3 <;> first | exact Bool.noConfusion h3 | exact ⟨rfl, rfl⟩
theorem slotT_F (h : slotT o = true) : Fq o a = [] := by
  unfold Fq
  rw [if_pos (slotT_quiet h)]
  simp only [slotT, Bool.and_eq_true] at h
  obtain ⟨⟨h1, h2⟩, h3⟩ := h
  have hg : gd o a = some true := by unfold gd; have : o.guard = none := by simpa using h1
                                     rw [this]
  rw [hg]
  cases ho : o.op <;> rw [ho] at h3 <;> first | exact Bool.noConfusion h3 | rfl
theorem slotT_qv (h : slotT o = true) : qv base i o a S = some (stv o a) := by
  unfold qv stv
  simp only [slotT, Bool.and_eq_true] at h
  obtain ⟨⟨h1, h2⟩, h3⟩ := h
  have hg : gd o a = some true := by unfold gd; have : o.guard = none := by simpa using h1
                                     rw [this]
  rw [hg]
  cases ho : o.op <;> rw [ho] at h3 <;> first | exact Bool.noConfusion h3 | (simp only [ex, Eff.run_val, Option.map_some])
theorem stv_eq (h : slotT o = true) (ha : ∀ t ∈ o.rds, a t = b t) : stv o b = stv o a := by
  have h1 := slotT_qv (base := 0) (i := 0) (S := ⟨0, fun _ => none⟩) (a := a) h
  have h2 := slotT_qv (base := 0) (i := 0) (S := ⟨0, fun _ => none⟩) (a := b) h
  have h3 := qv_eq (base := 0) (i := 0) (S := ⟨0, fun _ => none⟩) (S' := ⟨0, fun _ => none⟩) (slotT_quiet h) ha (fun _ _ => rfl)
  rw [h1, h2] at h3
  exact Option.some.inj h3
end
section
variable {P : Program} {base : Nat}
theorem RSp_watch : ∀ (l : List SOp) {T T' : List (Nat × List Nat)} {K : AF → St → Prop} {a : AF} {S : St}, (∀ p ∈ T', p.2 = [] ∨ p ∈ T) → RSp P base l T K a S → RSp P base l T' K a S
  | [], _, _, _, _, _, _, h => h
  | (i, o, w) :: l, T, T', K, a, S, hT, h => by
    unfold RSp at h ⊢
    refine StpS.mono (fun v S' h' => ?_) (h.watch hT)
    refine RSp_watch l (fun p hp => ?_) h'
    rcases List.mem_cons.mp hp with rfl | hp
    · exact .inr (by simp)
    · rcases hT p hp with h1 | h1
      · exact .inl h1
      · exact .inr (by simp [h1])
theorem RSp_mono : ∀ (l : List SOp) {T : List (Nat × List Nat)} {K K' : AF → St → Prop} {a : AF} {S : St}, (∀ a S, K a S → K' a S) → RSp P base l T K a S → RSp P base l T K' a S
  | [], _, _, _, _, _, hk, h => hk _ _ h
  | (i, o, w) :: l, T, K, K', a, S, hk, h => by
    unfold RSp at h ⊢
    exact StpS.mono (fun v S' h' => RSp_mono l hk h') h
/-- May one go ahead of another one that stands before it? -/
def swapB (s t : SOp) : Bool := slotsB s.2.1 t.2.1 && (slotT s.2.1 || slotT t.2.1 || (quietN s.2.1 && quietN t.2.1) || (quietN s.2.1 && t.2.1.call.isSome && t.2.2.contains s.1))
theorem put_agree {a : AF} {d : Option Nat} {v : AV} {L : List Nat} (h : ∀ e, d = some e → e ∉ L) : ∀ t ∈ L, a t = a.put d v t := fun t ht => (AF.put_eq (fun e he => by intro h3; subst h3; exact h _ he ht)).symm
theorem RSp_swap {s t : SOp} {l : List SOp} {T : List (Nat × List Nat)} {K : AF → St → Prop} {a : AF} {S : St} (hb : swapB s t = true) (h : RSp P base (s :: t :: l) T K a S) : RSp P base (t :: s :: l) T K a S := by
  obtain ⟨i, o, w⟩ := s
  obtain ⟨j, u, x⟩ := t
  simp only [swapB, Bool.and_eq_true, Bool.or_eq_true] at hb
  obtain ⟨hsl, hor⟩ := hb
  obtain ⟨r1, r2, dd⟩ := slotsB_ok hsl
  unfold RSp at h ⊢
  unfold RSp at h ⊢
  have hFu : ∀ v, Fq u (a.put o.dst v) = Fq u a := fun v => (Fq_eq (put_agree r1)).symm
  have hFo : ∀ v, Fq o (a.put u.dst v) = Fq o a := fun v => (Fq_eq (put_agree r2)).symm
  have perm : ∀ {b : AF} {S2 : St}, RSp P base l ((j, Fq u a) :: (i, Fq o a) :: T) K b S2 → RSp P base l ((i, Fq o a) :: (j, Fq u a) :: T) K b S2 :=
    fun h => RSp_watch l (fun p hp => .inr (by simp only [List.mem_cons] at hp ⊢; rcases hp with h1 | h1 | h1 <;> simp [h1])) h
  -- the earlier one changes nothing, and the later one keeps what it looks at
  have key : quietN o = true → (∀ b, StpS P base j u x ((i, Fq o a) :: T) (fun r S' => RSp P base l ((j, Fq u a) :: (i, Fq o a) :: T) K ((a.put o.dst b).put u.dst r) S') a S →
      StpS P base j u x ((i, Fq o a) :: T) (fun r S' => (∀ k ∈ Fq o a, S'.g k = S.g k) ∧ RSp P base l ((j, Fq u a) :: (i, Fq o a) :: T) K ((a.put o.dst b).put u.dst r) S') a S) →
      StpS P base j u x T (fun v S' => StpS P base i o w ((j, Fq u a) :: T) (fun v_1 S' => RSp P base l ((i, Fq o (a.put u.dst v)) :: (j, Fq u a) :: T) K ((a.put u.dst v).put o.dst v_1) S') (a.put u.dst v) S') a S := by
    intro hq hkeep
    obtain ⟨v, hv, h2⟩ := (StpS_quiet hq).mp h
    rw [hFu] at h2
    have h3 := hkeep v (StpS.eq_of (fun t ht => (put_agree r1 t ht).symm) h2)
    refine StpS.mono (fun r S' hh => ?_) (h3.watch (T' := T) (fun p hp => .inr (by simp [hp])))
    obtain ⟨h4, h5⟩ := hh
    refine (StpS_quiet hq).mpr ⟨v, ?_, ?_⟩
    · rw [← hv]
      exact qv_eq hq (put_agree r2) h4
    · rw [hFo]
      rw [AF.put_comm (d := u.dst) (e := o.dst) (fun k hk => fun e => dd k e hk)]
      exact perm h5
  rcases hor with ((h1 | h1) | ⟨h1, h2⟩) | ⟨⟨h1, h2⟩, h3⟩
  · refine key (slotT_quiet h1) (fun b hh => StpS.mono (fun r S' k => ⟨fun q hq => ?_, k⟩) hh)
    rw [slotT_F h1] at hq; simp at hq
  · -- the later one looks at slots alone
    have hFz : Fq u a = [] := slotT_F h1
    refine (StpS_quiet (slotT_quiet h1)).mpr ⟨stv u a, slotT_qv h1, ?_⟩
    have h2 : StpS P base i o w T (fun v S' => RSp P base l ((i, Fq o a) :: (j, Fq u a) :: T) K ((a.put u.dst (stv u a)).put o.dst v) S') a S := by
      refine StpS.mono (fun v S' hh => ?_) h
      obtain ⟨v2, hv2, h3⟩ := (StpS_quiet (slotT_quiet h1)).mp hh
      rw [slotT_qv h1] at hv2
      cases hv2
      rw [stv_eq h1 (put_agree r1), hFu] at h3
      rw [AF.put_comm (d := u.dst) (e := o.dst) (fun k hk => fun e => dd k e hk)]
      exact perm h3
    have h3 := h2.eq_of (b := a.put u.dst (stv u a)) (put_agree r2)
    rw [hFo]
    refine h3.watch (fun p hp => ?_)
    rcases List.mem_cons.mp hp with rfl | hp
    · exact .inl hFz
    · exact .inr hp
  · refine key h1 (fun b hh => ?_)
    obtain ⟨v, k1, k2⟩ := (StpS_quiet h2).mp hh
    exact (StpS_quiet h2).mpr ⟨v, k1, fun _ _ => rfl, k2⟩
  · refine key h1 (fun b hh => ?_)
    have hx : i ∈ x := by simpa using h3
    unfold StpS at hh ⊢
    split at hh
    · exact hh
    · exact ⟨fun _ _ => rfl, hh⟩
    · split at hh
      · split at hh
        · refine hh.mono fun r S' k => ⟨k.1, ?_, k.2⟩
          exact kept_iff.mp k.1 (i, Fq o a) (by simp) hx
        · exact hh.elim
      · rename_i hc
        rw [hc] at h2; simp at h2
theorem RSp_front {x : SOp} {l2 : List SOp} : ∀ {l1 : List SOp} {T : List (Nat × List Nat)} {K : AF → St → Prop} {a : AF} {S : St}, (∀ s ∈ l1, swapB s x = true) → RSp P base (l1 ++ x :: l2) T K a S → RSp P base (x :: (l1 ++ l2)) T K a S
  | [], _, _, _, _, _, h => h
  | (i, o, w) :: l1, T, K, a, S, hi, h => by
    have h2 : RSp P base ((i, o, w) :: x :: (l1 ++ l2)) T K a S := by
      rw [List.cons_append] at h
      unfold RSp at h ⊢
      exact StpS.mono (fun v S' hh => RSp_front (l1 := l1) (fun q hq => hi q (by simp [hq])) hh) h
    exact RSp_swap (hi _ (by simp)) h2
end

theorem stp_sound {P : Program} {n : Nat} {ops : Array Oper} {base i : Nat} {ao : AOper} {w0 : List Nat} {T : List (Nat × List Nat)} {R : AV → St → Prop} {a : AF} {S : St} (h : StpS P base i ao w0 T R a S) {o : Oper} (ho : ops[i]? = some o) (hco : cOper P n ops o = some ao)
    {E : Env} {w : World} {act : Act} (hGm : Gam P E.H) (hS : Sim E S w) (hF : RepF E n a act) (hρ : E.ρ (base + i) = none) (hlt : base + i < S.n) {K : Act → World → Prop} {Q : Exit → Act → World → Prop}
    (hK : ∀ v S' act' w' E', R v S' → Sim E' S' w' → RepF E' n (a.put ao.dst v) act' → Evo E S w E' S' w' → S.n ≤ S'.n → (∀ k, k < S.n → k ≠ base + i → E.ρ k = none → E'.ρ k = none) → K act' w') : wpOp P ops Q i K act w := by
  obtain ⟨hd, hdst, hgd, hor⟩ := cOper_inv hco
  unfold wpOp
  rw [ho]
  simp only
  unfold StpS at h
  split at h
  · exact h.elim
  · rename_i hg
    rw [gd_wanted hF hgd hg]
    simp only [Bool.false_eq_true, if_false]
    rw [← hdst]
    exact hK _ _ _ _ E h hS (hF.put (by rw [hdst]; exact hd) rep_undef) (.refl _ _ _) (Nat.le_refl _) (fun _ _ _ e => e)
  · rename_i hg
    rw [gd_wanted hF hgd hg]
    simp only [if_true]
    left
    rcases hor with ⟨p, hp1, hp2⟩ | ⟨hp1, hop⟩
    · rw [hp1] at h
      obtain ⟨G, xs⟩ := p
      simp only at h
      unfold ccl at hp2
      split at hp2
      · rename_i g ys ts hoo
        simp only [Option.bind_eq_some_iff, Option.map_eq_some_iff, Prod.mk.injEq] at hp2
        obtain ⟨G', hG, XS, hXS, rfl, rfl⟩ := hp2
        have rg := ofOperand_ok hF hG
        split at h
        · rename_i f first cap hclo
          rw [hclo] at rg
          generalize hev : act.eval g = gv at rg
          cases rg with
          | clo _ _ _ fv cv hn hm hf hcc =>
            have hx := reps_operands hF hXS
            have hargs : Reps E (first ++ XS.map (·.ev a) ++ cap) (fv ++ ys.map act.eval ++ cv) := (Reps.append ⟨hn, hf⟩ hx).append ⟨hm, hcc⟩
            refine callOp_ok hd h hGm hS hF hargs ?_ (fun r S2 act' w' E' k1 k2 k3 k4 => ?_)
            · simp only [execOp, hoo, Sem.run_bind, run_resolve_func act.eval g ys ts o.type hev, Result.andThen_ok, invoke]
              exact run_callFunc h.1 _ _
            · exact hK r S2 act' w' E' k1.2 k2 (by rw [hdst]; exact k3) k4.evo k4.nle (fun i hi _ e => k4.low i hi e)
        · exact h.elim
      · cases hp2
    · rw [hp1] at h
      simp only at h
      split at h
      · rename_i v S' hex
        have hok := cop_ok (P := P) (n := n) (o := o) hd hop hex
        have hn := Eff.run_n hex
        refine hok E w act hS hF hρ hlt _ _ fun act' w' E' k1 k2 k3 k4 => hK v S' act' w' E' h k1 (by rw [hdst]; exact k2) k3 (by omega) (fun k _ hk e => k4.2 k hk e)
      · obtain ⟨b, g1, g2⟩ := nilG_ok hop h hF w
        unfold Oper.wp
        rw [g2, Oper.upon_value]
        rw [← hdst]
        exact hK _ _ _ _ E g1 hS (hF.put (by rw [hdst]; exact hd) (.v _ rfl)) (.refl _ _ _) (Nat.le_refl _) (fun _ _ _ e => e)
theorem draw_seq {P : Program} {n : Nat} {ops : Array Oper} {base : Nat} {Q : Exit → AF → St → Prop} {E0 : Env} {S0 : St} {w0 : World} (hG0 : Gam P E0.H) (hb : S0.n ≤ base)
    (hon : ∀ (i : Nat) o, ops[i]? = some o → ∀ e ∈ o.after, Region.binds .any e = true → e.on < i) :
    ∀ (fuel : Nat) (R : List SOp) (T : List (Nat × List Nat)) (listed : Array Bool) (a : AF) (S : St), R.length = fuel → RSp P base R T (fun a S => Q .normal a S) a S → R.Pairwise (fun s t => s.1 < t.1) →
      (∀ i, i < ops.size → (listed.getD i true = false ↔ ∃ s ∈ R, s.1 = i)) → (∀ s ∈ R, s.1 < ops.size) → listed.size = ops.size → DownC ops listed →
      (∀ s ∈ R, ∃ o, ops[s.1]? = some o ∧ cOper P n ops o = some s.2.1) → (∀ s ∈ R, ∀ t ∈ R, s.1 < t.1 → Ord ops t.1 s.1 ∨ swapB s t = true) →
      ∀ E w act, Sim E S w → RepF E n a act → (∀ s ∈ R, E.ρ (base + s.1) = none ∧ base + s.1 < S.n) → Ev E0 S0 w0 E S w → wpAny P .any ops (Post E0 S0 w0 n Q) fuel listed act w
  | 0, R, T, listed, a, S, hlen, hch, _, hmem, _, _, _, _, _, E, w, act, hS, hF, _, hE => by
    have : R = [] := List.eq_nil_of_length_eq_zero hlen
    subst this
    refine ⟨?_, a, S, E, hch, hS, hF, hE⟩
    refine List.eq_nil_iff_forall_not_mem.mpr (fun i hi => ?_)
    obtain ⟨h1, h2, _⟩ := mem_ready.mp hi
    obtain ⟨s, hs, _⟩ := (hmem i h1).mp h2
    simp at hs
  | fuel + 1, R, T, listed, a, S, hlen, hch, hsort, hmem, hlt, hsz, hdown, hops, hind, E, w, act, hS, hF, hr, hE => by
    refine ⟨fun hnil => ?_, fun i hi => ?_⟩
    · cases R with
      | nil => simp at hlen
      | cons s R =>
        exfalso
        have hmemr : s.1 ∈ Region.ready .any ops listed := by
          obtain ⟨o, ho, _⟩ := hops s (by simp)
          have hsi := hlt s (by simp)
          refine mem_ready.mpr ⟨hsi, (hmem s.1 hsi).mpr ⟨s, by simp, rfl⟩, o, ho, fun e he hbn => ?_⟩
          have hlt2 := hon _ o ho e he hbn
          cases hl : listed.getD e.on false with
          | true => rfl
          | false =>
            have hl2 : listed.getD e.on true = false := by
              simp only [Array.getD_eq_getD_getElem?] at hl ⊢
              rw [Array.getElem?_eq_getElem (by omega)] at hl ⊢
              exact hl
            obtain ⟨s', hs', e'⟩ := (hmem e.on (by omega)).mp hl2
            rcases List.mem_cons.mp hs' with rfl | h3
            · omega
            · have := List.rel_of_pairwise_cons hsort h3
              omega
        rw [hnil] at hmemr; simp at hmemr
    · obtain ⟨h1, h2, o, ho, hpre⟩ := mem_ready.mp hi
      obtain ⟨s, hs, rfl⟩ := (hmem i h1).mp h2
      obtain ⟨l1, l2, rfl⟩ := List.append_of_mem hs
      have hind1 : ∀ q ∈ l1, swapB q s = true := by
        intro q hq'
        have hqi : q.1 < s.1 := by
          have := List.pairwise_append.mp hsort
          exact this.2.2 q hq' s (by simp)
        rcases hind q (by simp [hq']) s (by simp) hqi with h3 | h3
        · exfalso
          have h4 := h3.listed hdown o ho hpre
          have h5 := (hmem q.1 (hlt q (by simp [hq']))).mpr ⟨q, by simp [hq'], rfl⟩
          simp only [Array.getD_eq_getD_getElem?] at h4 h5
          rw [Array.getElem?_eq_getElem (by have := hlt q (by simp [hq']); omega)] at h4 h5
          simp at h4 h5
          rw [h4] at h5; cases h5
        · exact h3
      have hfr := RSp_front hind1 hch
      obtain ⟨si, so, sw⟩ := s
      simp only at *
      unfold RSp at hfr
      obtain ⟨o', ho', hco⟩ := hops (si, so, sw) (by simp)
      obtain ⟨r1, r2⟩ := hr (si, so, sw) (by simp)
      have hsort2 : (l1 ++ l2).Pairwise (fun s t => s.1 < t.1) := by
        have h6 := List.pairwise_append.mp hsort
        refine List.pairwise_append.mpr ⟨h6.1, (List.pairwise_cons.mp h6.2.1).2, fun x hx y hy => h6.2.2 x hx y (by simp [hy])⟩
      have hne : ∀ q ∈ l1 ++ l2, q.1 ≠ si := by
        intro q hq'
        have h6 := List.pairwise_append.mp hsort
        rcases List.mem_append.mp hq' with h7 | h7
        · have := h6.2.2 q h7 (si, so, sw) (by simp); simp only at this; omega
        · have := (List.pairwise_cons.mp h6.2.1).1 q h7; simp only at this; omega
      have hsub : ∀ q ∈ l1 ++ l2, q ∈ l1 ++ (si, so, sw) :: l2 := by
        intro q hq'; rcases List.mem_append.mp hq' with h7 | h7 <;> simp [h7]
      refine stp_sound hfr ho' hco (hG0.le hE.evo.le) hS hF r1 r2 fun v S1 act' w' E' k0 k1 k2 k3 k4 k5 => ?_
      refine draw_seq hG0 hb hon fuel (l1 ++ l2) _ (listed.setIfInBounds si true) _ _ (by simp at hlen ⊢; omega) k0 hsort2 ?_ (fun q hq' => hlt q (hsub q hq')) (by simpa using hsz) ?_ (fun q hq' => hops q (hsub q hq'))
        (fun q hq' t ht => hind q (hsub q hq') t (hsub t ht)) E' w' act' k1 k2 (fun q hq' => ?_) ⟨hE.evo.trans k3, by have := hE.nle; omega, fun id hid e => k5 id (by have := hE.nle; omega) (by omega) (hE.low id hid e)⟩
      · intro j hj
        simp only [Array.getD_eq_getD_getElem?, Array.getElem?_setIfInBounds]
        by_cases hjs : si = j
        · subst hjs
          rw [if_pos rfl, if_pos (by omega)]
          simp only [Option.getD_some, Bool.true_eq_false, false_iff, not_exists, not_and]
          exact fun q hq' => hne q hq'
        · rw [if_neg hjs]
          have := hmem j hj
          simp only [Array.getD_eq_getD_getElem?] at this
          rw [this]
          constructor
          · rintro ⟨q, hq', e⟩
            refine ⟨q, ?_, e⟩
            rcases List.mem_append.mp hq' with h7 | h7
            · simp [h7]
            · rcases List.mem_cons.mp h7 with rfl | h8
              · exact (hjs e).elim
              · simp [h8]
          · rintro ⟨q, hq', e⟩; exact ⟨q, hsub q hq', e⟩
      · intro k o2 hk ho2 e he hbn
        simp only [Array.getD_eq_getD_getElem?, Array.getElem?_setIfInBounds] at hk ⊢
        by_cases hks : si = k
        · subst hks
          rw [ho] at ho2; cases ho2
          have h8 := hpre e he hbn
          simp only [Array.getD_eq_getD_getElem?] at h8
          split
          · rw [if_pos (by omega)]; rfl
          · exact h8
        · rw [if_neg hks] at hk
          have h8 := hdown k o2 (by simpa [Array.getD_eq_getD_getElem?] using hk) ho2 e he hbn
          simp only [Array.getD_eq_getD_getElem?] at h8
          split
          · rename_i h9
            split
            · rfl
            · rw [← h9, Array.getElem?_eq_none (by omega)] at h8; simp at h8
          · exact h8
      · obtain ⟨q1, q2⟩ := hr q (hsub q hq')
        exact ⟨k5 _ q2 (by have := hne q hq'; omega) q1, by omega⟩
def pairsS (m : Nat) (t : SOp) : List SOp → Bool
  | [] => true
  | s :: prev => (m.testBit s.1 || swapB s t) && pairsS m t prev
def ordGo : List Oper → List SOp → List SOp → List Nat → Nat → Bool
  | o :: ops, s :: os, prev, ms, i => o.after.toList.all (fun e => !Region.binds .any e || decide (e.on < i)) && pairsS (maskOf ms o) s prev && Nat.beq s.1 i && ordGo ops os (s :: prev) (ms ++ [maskOf ms o]) (i + 1)
  | [], [], _, _, _ => true
  | _, _, _, _, _ => false
/-- The operations with their places, and whose places their calls must leave alone. -/
def annGo : List Oper → List AOper → List SOp → List Nat → Nat → List SOp
  | o :: ops, s :: os, prev, ms, i => (i, s, if s.call.isSome = true then (prev.filter fun p => !(maskOf ms o).testBit p.1 && quietN p.2.1 && !slotT p.2.1).map (·.1) else []) ::
      annGo ops os ((i, s, []) :: prev) (ms ++ [maskOf ms o]) (i + 1)
  | _, _, _, _, _ => []
theorem pairsS_mem {m : Nat} {t : SOp} : ∀ {prev : List SOp}, pairsS m t prev = true → ∀ s ∈ prev, m.testBit s.1 = true ∨ swapB s t = true
  | [], _, s, h => by simp at h
  | x :: prev, h, s, hs => by
    simp only [pairsS, Bool.and_eq_true, Bool.or_eq_true] at h
    rcases List.mem_cons.mp hs with rfl | hs
    · exact h.1
    · exact pairsS_mem h.2 s hs
theorem ordGo_inv {ops : Array Oper} : ∀ (l : List Oper) (os prev : List SOp) (ms : List Nat) (i : Nat), ops.toList.drop i = l → ms.length = i → MasksOk ops ms → ordGo l os prev ms i = true →
    os.map (·.1) = List.range' i l.length ∧ (∀ (t : Nat) o, i ≤ t → ops[t]? = some o → ∀ e ∈ o.after, Region.binds .any e = true → e.on < t) ∧
      (∀ t ∈ os, ∀ s ∈ prev, Ord ops t.1 s.1 ∨ swapB s t = true) ∧ os.Pairwise (fun s t => Ord ops t.1 s.1 ∨ swapB s t = true)
  | [], os, prev, ms, i, hl, _, _, h => by
    cases os with
    | cons s os => simp [ordGo] at h
    | nil =>
      refine ⟨rfl, fun t o h1 h2 => ?_, by simp, .nil⟩
      have h3 := (Array.getElem?_eq_some_iff.mp h2).1
      have h4 := List.drop_eq_nil_iff.mp hl
      simp at h4
      omega
  | o :: l, os, prev, ms, i, hl, hms, hmo, h => by
    cases os with
    | nil => simp [ordGo] at h
    | cons s os =>
      simp only [ordGo, Bool.and_eq_true] at h
      obtain ⟨⟨⟨h1, h2⟩, h3⟩, h4⟩ := h
      have hsi : s.1 = i := Nat.eq_of_beq_eq_true h3
      have hlt : i < ops.size := by
        have := congrArg List.length hl
        simp at this; omega
      have ho : ops[i]? = some o := by
        rw [List.drop_eq_getElem_cons (by simpa using hlt)] at hl
        simp only [List.cons.injEq] at hl
        rw [Array.getElem?_eq_getElem hlt, ← hl.1]; simp
      have hl2 : ops.toList.drop (i + 1) = l := by
        rw [List.drop_eq_getElem_cons (by simpa using hlt)] at hl
        simp only [List.cons.injEq] at hl
        exact hl.2
      obtain ⟨k1, k2, k3, k4⟩ := ordGo_inv l os (s :: prev) (ms ++ [maskOf ms o]) (i + 1) hl2 (by simp [hms]) (hmo.push (by rw [hms]; exact ho)) h4
      refine ⟨by simp [k1, hsi, List.range'_succ], fun t o' ht hto e he hb => ?_, fun t ht q hq => ?_, List.pairwise_cons.mpr ⟨fun t ht => k3 t ht s (by simp), k4⟩⟩
      · by_cases hti : t = i
        · subst hti
          rw [ho] at hto; cases hto
          have := (List.all_eq_true.mp h1) e (by simpa using he)
          simpa [hb] using this
        · exact k2 t o' (by omega) hto e he hb
      · rcases List.mem_cons.mp ht with rfl | ht
        · rcases pairsS_mem h2 q hq with h5 | h5
          · left; rw [hsi]; exact maskOf_ok hmo ho _ h5
          · exact .inr h5
        · exact k3 t ht q (by simp [hq])
def seqOk (ops : Array Oper) (l : List SOp) : Bool := ordGo ops.toList l [] [] 0
theorem seq_sound {P : Program} {n : Nat} {ops : Array Oper} {l : List SOp} {id : Nat} {Q : Exit → AF → St → Prop} (hm : P.follows .mixedOrders = true) (hok : seqOk ops l = true)
    (hget : ∀ s ∈ l, ∃ o, ops[s.1]? = some o ∧ cOper P n ops o = some s.2.1) {a : AF} {S : St}
    (h : RSp P S.n l [] (fun a S => Q .normal a S) a ⟨S.n + l.length, S.g⟩) {E : Env} {w : World} {act : Act} (hG : Gam P E.H) (hS : Sim E S w) (hF : RepF E n a act) : (Code.region id ops true).wp P (Post E S w n Q) act w := by
  obtain ⟨k1, k2, k3, k4⟩ := ordGo_inv (ops := ops) ops.toList l [] [] 0 (by simp) rfl (fun i j h => by simp at h) hok
  have hlen : l.length = ops.size := by have := congrArg List.length k1; simpa using this
  have hi : ∀ k (hk : k < l.length), (l[k]).1 = k := by
    intro k hk
    have h5 : (l.map (·.1))[k]'(by simpa using hk) = (List.range' 0 ops.toList.length)[k]'(by simp; omega) := by simp only [k1]
    simpa using h5
  have hmem : ∀ s ∈ l, s.1 < ops.size := by
    intro s hs
    obtain ⟨k, hk, e⟩ := List.mem_iff_getElem.mp hs
    have := hi k hk
    rw [e] at this; omega
  refine wp_region_any hm ?_
  refine draw_seq (S0 := S) (base := S.n) hG (Nat.le_refl _) (fun i o => k2 i o (Nat.zero_le _)) ops.size l [] (Array.replicate ops.size false) a _ (by omega) h ?_ ?_ hmem (by simp) ?_ hget ?_ E _ act ((hS.drop S.g (fun _ _ e => e) _ (by show S.n ≤ S.n + _; omega)).drew) hF ?_ ?_
  · have h6 : (l.map (·.1)).Pairwise (· < ·) := by rw [k1]; exact List.pairwise_lt_range'
    exact List.pairwise_map.mp h6
  · intro i hi'
    have : (Array.replicate ops.size false).getD i true = false := by simp [Array.getD_eq_getD_getElem?, hi']
    simp only [this, true_iff]
    exact ⟨l[i]'(by omega), List.getElem_mem _, hi i (by omega)⟩
  · intro k o hk
    simp only [Array.getD_eq_getD_getElem?] at hk
    by_cases hks : k < ops.size
    · simp [hks] at hk
    · simp [hks] at hk
  · intro s hs t ht hlt
    obtain ⟨k, hk, e1⟩ := List.mem_iff_getElem.mp hs
    obtain ⟨m, hm', e2⟩ := List.mem_iff_getElem.mp ht
    have q1 := hi k hk
    have q2 := hi m hm'
    rw [e1] at q1
    rw [e2] at q2
    have := List.pairwise_iff_getElem.mp k4 k m hk hm' (by omega)
    rw [e1, e2] at this
    exact this
  · intro s hs
    have := hmem s hs
    exact ⟨hS.fresh _ (by omega), by show S.n + s.1 < S.n + l.length; omega⟩
  · exact ⟨⟨rfl, rfl, rfl, Nat.le_refl _, fun _ _ _ => rfl, fun id l k hk hl => .inr ⟨id, l, k, hk, hl, rfl⟩, Env.le_refl _, fun _ _ e => .inl e⟩, by show S.n ≤ S.n + _; omega, fun _ _ e => e⟩
end Go.Rf


/- Own work: regions that may panic, and calls that may end so. -/
set_option linter.unusedVariables false
set_option linter.unusedSimpArgs false
namespace Go.Rf
open Go.RowKit

/-- A call that returns, or panics. -/
def CallX (P : Program) (f : FuncId) (args : List AV) (S : St) (K : AV → St → Prop) (X : Value → St → Prop) : Prop :=
  Callable P f ∧ ∀ E w vals, Gam P E.H → Sim E S w → Reps E args vals →
    Calls P f vals w fun e w' => ∃ S' E', Sim E' S' w' ∧ Ev E S w E' S' w' ∧ ((∃ v r, e = .returned v ∧ K r S' ∧ Rep E' r v) ∨ ∃ v, e = .panicked [{ v, recovered := false }] ∧ X v S')
theorem CallX.mono {P : Program} {f : FuncId} {args : List AV} {S : St} {K K' : AV → St → Prop} {X X' : Value → St → Prop} (h : CallX P f args S K X) (hk : ∀ r S', K r S' → K' r S') (hx : ∀ v S', X v S' → X' v S') : CallX P f args S K' X' :=
  ⟨h.1, fun E w vals h0 h1 h2 => (h.2 E w vals h0 h1 h2).mono fun e w' ⟨S', E', a, b, c⟩ => ⟨S', E', a, b, c.imp (fun ⟨v, r, x, y, z⟩ => ⟨v, r, x, hk _ _ y, z⟩) fun ⟨v, x, y⟩ => ⟨v, x, hx _ _ y⟩⟩⟩
theorem CallX.ofR {P : Program} {f : FuncId} {args : List AV} {S : St} {K : AV → St → Prop} {X : Value → St → Prop} (h : CallR P f args S K) : CallX P f args S K X :=
  ⟨h.1, fun E w vals h0 h1 h2 => (h.2 E w vals h0 h1 h2).mono fun e w' ⟨v, r, S', E', a, b, c, d, f⟩ => ⟨S', E', c, f, .inl ⟨v, r, a, b, d⟩⟩⟩
def pn (v : Value) : Exit := .panic [{ v, recovered := false }]
/-- A region in the text's order; its end: the panic, if there is one. -/
def RGX (P : Program) (base : Nat) (p : Option Opd) : List AOper → Nat → (Exit → AF → St → Prop) → AF → St → Prop
  | [], _, Q, a, S => match p with
    | none => Q .normal a S
    | some x => match x.ev a with
      | .v (.iface t y) => Q (pn (.iface t y)) a S
      | _ => False
  | o :: os, i, Q, a, S =>
    match gd o a with
    | none => False
    | some false => RGX P base p os (i + 1) Q (a.put o.dst (.tup [])) S
    | some true => match o.call with
      | some (G, xs) => match G.ev a with
        | .clo f first cap => CallX P f (first ++ xs.map (·.ev a) ++ cap) S (fun r S' => RGX P base p os (i + 1) Q (a.put o.dst r) S') fun v S' => Q (pn v) a S'
        | _ => False
      | none => match (ex o.op a).run S (base + i) with
        | some (v, S') => RGX P base p os (i + 1) Q (a.put o.dst v) S'
        | none => nilG o.op a fun v => RGX P base p os (i + 1) Q (a.put o.dst v) S
theorem RGX_mono {P : Program} {base : Nat} {p : Option Opd} : ∀ (os : List AOper) (i : Nat) {Q Q' : Exit → AF → St → Prop} {a : AF} {S : St}, (∀ e a S, Q e a S → Q' e a S) → RGX P base p os i Q a S → RGX P base p os i Q' a S
  | [], i, Q, Q', a, S, hk, h => by
    cases p with
    | none => exact hk _ _ _ h
    | some x =>
      simp only [RGX] at h ⊢
      split at h
      · exact hk _ _ _ h
      · exact h.elim
  | o :: os, i, Q, Q', a, S, hk, h => by
    simp only [RGX] at h ⊢
    split at h
    · exact h.elim
    · exact RGX_mono os (i + 1) hk h
    · split at h
      · split at h
        · exact h.mono (fun r S' h' => RGX_mono os (i + 1) hk h') fun v S' h' => hk _ _ _ h'
        · exact h.elim
      · split at h
        · exact RGX_mono os (i + 1) hk h
        · exact nilG_mono (fun v hv => RGX_mono os (i + 1) hk hv) h
theorem RGX_of_RG {P : Program} {base : Nat} {Q : Exit → AF → St → Prop} : ∀ (os : List AOper) (i : Nat) {a : AF} {S : St}, RG P base os i (fun a S => Q .normal a S) a S → RGX P base none os i Q a S
  | [], i, a, S, h => h
  | o :: os, i, a, S, h => by
    simp only [RG] at h
    simp only [RGX]
    cases hg : gd o a with
    | none => rw [hg] at h; exact h
    | some b =>
      rw [hg] at h
      cases b with
      | false => exact RGX_of_RG os (i + 1) h
      | true =>
        simp only at h ⊢
        cases hc : o.call with
        | some p =>
          rw [hc] at h
          obtain ⟨G, xs⟩ := p
          simp only at h ⊢
          cases hG : G.ev a with
          | clo f first cap => rw [hG] at h; exact .ofR (h.mono fun r S' h' => RGX_of_RG os (i + 1) h')
          | _ => rw [hG] at h; exact h
        | none =>
          rw [hc] at h
          simp only at h ⊢
          cases hr : (ex o.op a).run S (base + i) with
          | some p => rw [hr] at h; exact RGX_of_RG os (i + 1) h
          | none => rw [hr] at h; exact nilG_mono (fun v hv => RGX_of_RG os (i + 1) hv) h
end Go.Rf

