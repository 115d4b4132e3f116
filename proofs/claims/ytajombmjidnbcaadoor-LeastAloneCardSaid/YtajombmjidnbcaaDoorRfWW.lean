import Derived.Test.YtajombmjidnbcaaDoorRfNew
import Derived.Test.YtajombmjidnbcaaDoorRfAW
/- Own work: codes that change nothing of their own, told of worlds: for calls whose contracts speak of worlds. -/
set_option linter.unusedVariables false
set_option linter.unusedSimpArgs false
namespace Go.Rf
open Go.RowKit

def pureA : AOp → Bool
  | .mv _ | .pick .. | .load .. | .bin .. | .un .. | .fieldA .. | .idxA .. | .field .. | .len _ | .ext .. | .nilc _ => true
  | _ => false
theorem cop_pure {P : Program} {o : Op} {ao : AOp} (h : cop P o = some ao) (hp : pureA ao = true) : pureOp o = true := by
  cases o with
  | call c =>
    simp only [cop] at h
    unfold ccall at h
    split at h
    · rename_i x t
      rfl
    · split at h
      · simp only [Option.bind_eq_some_iff, Option.map_eq_some_iff] at h
        obtain ⟨_, _, _, _, _, _, rfl⟩ := h
        cases hp
      · split at h
        · simp only [Option.bind_eq_some_iff, Option.map_eq_some_iff] at h
          obtain ⟨_, _, _, _, _, _, rfl⟩ := h
          cases hp
        · cases h
    all_goals first
      | (cases h; done)
      | (simp only [Option.bind_eq_some_iff, Option.map_eq_some_iff] at h; obtain ⟨_, _, _, _, _, _, rfl⟩ := h; cases hp; done)
      | (simp only [Option.bind_eq_some_iff, Option.map_eq_some_iff] at h; obtain ⟨_, _, _, _, rfl⟩ := h; cases hp; done)
      | (simp only [Option.bind_eq_some_iff, Option.map_eq_some_iff] at h; obtain ⟨_, _, _, _, _, rfl⟩ := h; cases hp; done)
  | alloc t => simp only [cop, Option.map_eq_some_iff] at h; obtain ⟨_, _, rfl⟩ := h; cases hp
  | box t x => simp only [cop, Option.bind_eq_some_iff, Option.map_eq_some_iff] at h; obtain ⟨_, _, _, _, rfl⟩ := h; cases hp
  | store t p x => simp only [cop, Option.bind_eq_some_iff, Option.map_eq_some_iff] at h; obtain ⟨_, _, _, _, _, _, rfl⟩ := h; cases hp
  | build t ps =>
    simp only [cop, Option.bind_eq_some_iff] at h
    obtain ⟨qs, hq, hb⟩ := h
    unfold cbuild at hb
    split at hb
    · simp only [Option.bind_eq_some_iff, Option.map_eq_some_iff] at hb
      obtain ⟨_, _, _, _, rfl⟩ := hb; cases hp
    · cases hb
  | buildSlice t m ps => simp only [cop, Option.bind_eq_some_iff, Option.map_eq_some_iff] at h; obtain ⟨_, _, _, _, rfl⟩ := h; cases hp
  | makeSlice t l c => simp only [cop, Option.bind_eq_some_iff, Option.map_eq_some_iff] at h; obtain ⟨_, _, _, _, _, _, rfl⟩ := h; cases hp
  | slice t x lo hi mx =>
    cases mx with
    | some m => simp [cop] at h
    | none =>
      simp only [cop, Option.bind_eq_some_iff] at h
      obtain ⟨X, hx, LO, hlo, HI, hhi, hb⟩ := h
      unfold cslc at hb
      split at hb
      · cases hb; cases hp
      · simp only [Option.map_eq_some_iff] at hb
        obtain ⟨_, _, rfl⟩ := hb; cases hp
      · cases hb
  | makeFunc f a b =>
    cases f with
    | func f => simp only [cop, Option.bind_eq_some_iff, Option.map_eq_some_iff] at h; obtain ⟨_, _, _, _, rfl⟩ := h; cases hp
    | _ => simp [cop] at h
  | makeMap t r =>
    cases r with
    | some r => simp [cop] at h
    | none => simp only [cop, Option.some.injEq] at h; subst h; cases hp
  | lookup t m k ok => simp only [cop, Option.bind_eq_some_iff, Option.map_eq_some_iff] at h; obtain ⟨_, _, _, _, _, _, rfl⟩ := h; cases hp
  | mapUpdate t m k x => simp only [cop, cmset, Option.bind_eq_some_iff, Option.map_eq_some_iff] at h; obtain ⟨_, _, _, _, _, _, _, _, rfl⟩ := h; cases hp
  | insert t m k x => simp only [cop, cmset, Option.bind_eq_some_iff, Option.map_eq_some_iff] at h; obtain ⟨_, _, _, _, _, _, _, _, rfl⟩ := h; cases hp
  | makeInterface t x =>
    simp only [cop] at h
    split at h
    · simp only [Option.map_eq_some_iff] at h; obtain ⟨_, _, rfl⟩ := h; cases hp
    · cases h
  | typeAssert x xt t ok =>
    cases ok with
    | false => simp [cop] at h
    | true =>
      simp only [cop] at h
      split at h
      · simp only [Option.bind_eq_some_iff, Option.map_eq_some_iff] at h; obtain ⟨_, _, _, _, rfl⟩ := h; cases hp
      · cases h
  | _ => first | rfl | (simp [cop] at h; done)
/-- Nothing lives but what is frozen; the number 0 may be spoken of. -/
def SE : St := ⟨2, fun _ => none⟩
structure EOk (E : Env) (w : World) : Prop where
  hH : HOk E.H w
  fresh : ∀ id, 1 ≤ id → E.ρ id = none
theorem EOk.sim {E : Env} {w : World} (h : EOk E w) : Sim E SE w :=
  ⟨h.hH, fun i k e => by simp [SE] at e, fun i j ki kj li lj e => by simp [SE] at e, fun i hi => h.fresh i (by have : 2 ≤ i := hi; omega)⟩
def CallW (P : Program) (E : Env) (f : FuncId) (args : List AV) (w : World) (K : AV → World → Prop) : Prop :=
  Callable P f ∧ ∀ vals, Reps E args vals → Calls P f vals w fun e w' => ∃ v r, e = .returned v ∧ Rep E r v ∧ HOk E.H w' ∧ K r w'
def WG (P : Program) (E : Env) : List AOper → (AF → World → Prop) → AF → World → Prop
  | [], K, a, w => K a w
  | o :: os, K, a, w => o.guard = none ∧ match o.call with
    | some (G, xs) => match G.ev a with
      | .clo f [] [] => CallW P E f (xs.map (·.ev a)) w fun r w' => WG P E os K (a.put o.dst r) w'
      | _ => False
    | none => pureA o.op = true ∧ match (ex o.op a).run SE 1 with
      | some (v, _) => WG P E os K (a.put o.dst v) w
      | none => False
def WThen (K : AF → World → Prop) (Q : Exit → AF → World → Prop) : Exit → AF → World → Prop
  | .normal, a, w => K a w
  | e, a, w => Q e a w
def WBlock (id : Nat) (Q : Exit → AF → World → Prop) : Exit → AF → World → Prop
  | .exit id', a, w => if id' = id then Q .normal a w else Q (.exit id') a w
  | e, a, w => Q e a w
def AWW (P : Program) (E : Env) : AC → (Exit → AF → World → Prop) → AF → World → Prop
  | .skip, Q, a, w => Q .normal a w
  | .reg none os, Q, a, w => WG P E os (fun a w => Q .normal a w) a w
  | .seq x y, Q, a, w => AWW P E x (WThen (AWW P E y Q) Q) a w
  | .cond c x y, Q, a, w => match c.ev a with
    | .v (.bool b) => if b = true then AWW P E x Q a w else AWW P E y Q a w
    | _ => False
  | .block id x, Q, a, w => AWW P E x (WBlock id Q) a w
  | .loop x, Q, a, w => ∃ I : Nat → AF → World → Prop, (∃ m, I m a w) ∧ ∀ m a w, I m a w → AWW P E x (WThen (fun a' w' => ∃ m', m' < m ∧ I m' a' w') Q) a w
  | .exit id, Q, a, w => Q (.exit id) a w
  | .ret, Q, a, w => Q .ret a w
  | _, _, _, _ => False
def WPost (E : Env) (n : Nat) (Q : Exit → AF → World → Prop) : Exit → Act → World → Prop := fun e act w => ∃ a, Q e a w ∧ RepF E n a act ∧ EOk E w
theorem wg_sound {P : Program} {n : Nat} {ops : Array Oper} {E : Env} {Q : Exit → AF → World → Prop} : ∀ (os : List AOper) (i : Nat) (a : AF) (w : World), (∀ k (hk : k < os.length), ∃ o, ops[i + k]? = some o ∧ cOper P n ops o = some (os[k])) →
    WG P E os (fun a w => Q .normal a w) a w → ∀ act, EOk E w → RepF E n a act → wpOps P ops (WPost E n Q) (List.range' i os.length) act w
  | [], i, a, w, _, h, act, hE, hF => ⟨a, h, hF, hE⟩
  | ao :: os, i, a, w, hc, h, act, hE, hF => by
    obtain ⟨o, ho, hco⟩ := hc 0 (by simp)
    simp only [Nat.add_zero, List.getElem_cons_zero] at ho hco
    obtain ⟨hd, hdst, hgd, hor⟩ := cOper_inv hco
    have hc' : ∀ k (hk : k < os.length), ∃ o, ops[i + 1 + k]? = some o ∧ cOper P n ops o = some (os[k]) := by
      intro k hk
      obtain ⟨o', h1, h2⟩ := hc (k + 1) (by simpa using hk)
      exact ⟨o', by rw [← h1]; congr 1; omega, by simpa using h2⟩
    simp only [WG] at h
    obtain ⟨hgn, h⟩ := h
    have hgo : o.guard = none := by
      rw [hgn] at hgd
      unfold cguard at hgd
      split at hgd
      · assumption
      · simp only [Option.map_eq_some_iff] at hgd
        obtain ⟨_, _, e⟩ := hgd
        cases e
    simp only [List.length_cons, List.range'_succ, wpOps, ho]
    simp only [Region.wanted, hgo, if_true]
    left
    rw [hdst] at h
    have next : ∀ {r : AV} {act' : Act} {w' : World}, WG P E os (fun a w => Q .normal a w) (a.put o.dst r) w' → EOk E w' → RepF E n (a.put o.dst r) act' → wpOps P ops (WPost E n Q) (List.range' (i + 1) os.length) act' w' :=
      fun h1 h2 h3 => wg_sound os (i + 1) _ _ hc' h1 _ h2 h3
    rcases hor with ⟨q, hp1, hp2⟩ | ⟨hp1, hop⟩
    · rw [hp1] at h
      obtain ⟨G, xs⟩ := q
      simp only at h
      unfold ccl at hp2
      split at hp2
      · rename_i g ys ts hoo
        simp only [Option.bind_eq_some_iff, Option.map_eq_some_iff, Prod.mk.injEq] at hp2
        obtain ⟨G', hG, XS, hXS, rfl, rfl⟩ := hp2
        have rg := ofOperand_ok hF hG
        split at h
        · rename_i f hclo
          rw [hclo] at rg
          generalize hev : act.eval g = gv at rg
          cases rg with
          | clo _ _ _ fv cv hn hm hf hcc =>
            have hfv : fv = #[] := Array.eq_empty_of_size_eq_zero (by simpa using hn)
            have hcv : cv = #[] := Array.eq_empty_of_size_eq_zero (by simpa using hm)
            subst hfv; subst hcv
            have hx := reps_operands hF hXS
            unfold Oper.wp
            have hrun : (execOp act.eval o).run P w = .ok (.enter f (ys.map act.eval)) w := by
              simp only [execOp, hoo, Sem.run_bind, run_resolve_func act.eval g ys ts o.type hev, Result.andThen_ok, invoke]
              have := run_callFunc h.1 (ys.map act.eval) w
              simpa using this
            rw [hrun, Oper.upon_enter]
            refine (h.2 _ hx).mono ?_
            rintro e w' ⟨v, r, rfl, hr, hH, hk⟩
            exact next hk ⟨hH, hE.fresh⟩ (hF.put hd hr)
        · exact h.elim
      · cases hp2
    · rw [hp1] at h
      simp only at h
      obtain ⟨hpa, h⟩ := h
      split at h
      · rename_i v S' hex
        have hok := cop_ok (P := P) (n := n) (o := o) (nid := 1) hd hop hex
        refine hok E w act hE.sim hF (hE.fresh 1 (Nat.le_refl _)) (by show 1 < 2; omega) _ _ fun act' w' E' k1 k2 k3 k4 => ?_
        obtain ⟨e1, e2⟩ := k4.1 (cop_pure hop hpa)
        subst e1; subst e2
        exact next h hE k2
      · exact h.elim
theorem aww_sound {P : Program} {n : Nat} {E : Env} : ∀ (c : Code) (ac : AC), comp P n c = some ac → ∀ (Q : Exit → AF → World → Prop) (a : AF) (w : World), AWW P E ac Q a w → ∀ act, EOk E w → RepF E n a act → c.wp P (WPost E n Q) act w := by
  intro c
  induction c with
  | skip =>
    intro ac hc Q a w h act hE hF
    simp only [comp, compG, Option.some.injEq] at hc; subst hc
    exact wp_skip ⟨a, h, hF, hE⟩
  | label l =>
    intro ac hc Q a w h act hE hF
    simp only [comp, compG, Option.some.injEq] at hc; subst hc
    exact wp_label ⟨a, h, hF, hE⟩
  | region id ops dr =>
    intro ac hc Q a w h act hE hF
    have e := compG_region (R := regC) hc
    subst e
    unfold regC at h
    cases hq : (ops.toList.mapM (cOper P n ops)).bind (cReg dr ops) with
    | none => rw [hq] at h; simp only [regOr, AWW] at h
    | some p =>
      rw [hq] at h
      simp only [regOr] at h
      simp only [Option.bind_eq_some_iff] at hq
      obtain ⟨ys, hy, hcr⟩ := hq
      obtain ⟨h1, h2⟩ := mapM_get hy
      obtain ⟨draw, os⟩ := p
      unfold cReg at hcr
      split at hcr
      · split at hcr
        · simp only [Option.some.injEq, Prod.mk.injEq] at hcr
          obtain ⟨rfl, rfl⟩ := hcr
          simp only [AWW] at h
        · cases hcr
      · rename_i hdr
        simp only [Bool.not_eq_true] at hdr
        subst hdr
        simp only [Option.some.injEq, Prod.mk.injEq] at hcr
        obtain ⟨rfl, rfl⟩ := hcr
        simp only [AWW] at h
        refine wp_region ?_
        have := wg_sound (P := P) (n := n) (ops := ops) (Q := Q) ys 0 a w (fun k hk => by
          obtain ⟨o, a1, a2⟩ := h2 k hk
          exact ⟨o, by rw [Nat.zero_add]; simpa using a1, a2⟩) h act hE hF
        have hlen : ys.length = ops.size := by rw [h1]; simp
        rw [List.range_eq_range', ← hlen]; exact this
  | seq c1 c2 ihx ihy =>
    intro ac hc Q a w h act hE hF
    simp only [comp, compG, Option.map_eq_some_iff, Option.bind_eq_some_iff] at hc
    obtain ⟨X, hX, Y, hY, rfl⟩ := hc
    simp only [AWW] at h
    refine wp_seq (wp_mono (ihx X hX _ a w h act hE hF) fun e act' w' hp => ?_)
    obtain ⟨a', q, r, s⟩ := hp
    cases e with
    | normal => exact ihy Y hY Q a' w' q act' s r
    | _ => exact ⟨a', q, r, s⟩
  | cond c0 c1 c2 ihx ihy =>
    intro ac hc Q a w h act hE hF
    simp only [comp, compG, Option.map_eq_some_iff, Option.bind_eq_some_iff] at hc
    obtain ⟨C', hC, X, hX, Y, hY, rfl⟩ := hc
    simp only [AWW] at h
    split at h
    · rename_i b hb
      have r := ofOperand_ok hF hC
      rw [hb] at r
      refine wp_cond (t := b) r.v_inv ?_
      cases b with
      | true => exact ihx X hX Q a w (by simpa using h) act hE hF
      | false => exact ihy Y hY Q a w (by simpa using h) act hE hF
    · exact h.elim
  | block id' c1 ihx =>
    intro ac hc Q a w h act hE hF
    simp only [comp, compG, Option.map_eq_some_iff] at hc
    obtain ⟨X, hX, rfl⟩ := hc
    simp only [AWW] at h
    refine wp_block (wp_mono (ihx X hX _ a w h act hE hF) fun e act' w' hp => ?_)
    obtain ⟨a', q, r, s⟩ := hp
    cases e with
    | exit j =>
      simp only [WBlock] at q
      simp only [Exit.inBlock]
      split at q
      · rename_i hj; rw [if_pos hj]; exact ⟨a', q, r, s⟩
      · rename_i hj; rw [if_neg hj]; exact ⟨a', q, r, s⟩
    | _ => exact ⟨a', q, r, s⟩
  | loop c1 ihx =>
    intro ac hc Q a w h act hE hF
    simp only [comp, compG, Option.map_eq_some_iff] at hc
    obtain ⟨X, hX, rfl⟩ := hc
    simp only [AWW] at h
    obtain ⟨I, ⟨m0, hI0⟩, hround⟩ := h
    intro b k cs
    have key : ∀ m, ∀ a w' act', I m a w' → EOk E w' → RepF E n a act' →
        ∃ e a' w2, WPost E n Q e a' w2 ∧ Arrives P (lone (b.at act' (.code c1 :: .inLoop c1 :: k)) cs w') b k cs e a' w2 := by
      intro m
      induction m using Nat.strongRecOn with
      | _ m ih =>
        intro a w' act' hI hE' hF'
        obtain ⟨e, act1, w1, hp, harr⟩ := ihx X hX _ a w' (hround m a w' hI) act' hE' hF' b (.inLoop c1 :: k) cs
        obtain ⟨a1, q, r, s⟩ := hp
        cases e with
        | normal =>
          obtain ⟨m', hlt, hI'⟩ := q
          obtain ⟨e2, act2, w2, hp2, harr2⟩ := ih m' hlt a1 w1 act1 hI' s r
          exact ⟨e2, act2, w2, hp2, .of_steps (Steps.trans harr (.one step_inLoop)) harr2⟩
        | exit id => exact ⟨_, act1, w1, ⟨a1, q, r, s⟩, .pass (x := .inLoop c1) rfl (fun _ _ => .inl (by simp)) harr⟩
        | goto l => exact ⟨_, act1, w1, ⟨a1, q, r, s⟩, .pass (x := .inLoop c1) rfl (fun _ _ => .inl (by simp)) harr⟩
        | ret => exact ⟨_, act1, w1, ⟨a1, q, r, s⟩, .pass (x := .inLoop c1) rfl (fun _ _ => .inl (by simp)) harr⟩
        | panic ch => exact ⟨_, act1, w1, ⟨a1, q, r, s⟩, .pass (x := .inLoop c1) rfl (fun _ _ => .inl (by simp)) harr⟩
        | outgrown => exact ⟨_, act1, w1, ⟨a1, q, r, s⟩, .pass (x := .inLoop c1) rfl (fun _ _ => .inl (by simp)) harr⟩
    obtain ⟨e, a', w', hp, harr⟩ := key m0 a w act hI0 hE hF
    exact ⟨e, a', w', hp, .of_steps (.one step_loop) harr⟩
  | exit id =>
    intro ac hc Q a w h act hE hF
    simp only [comp, compG, Option.some.injEq] at hc; subst hc
    exact wp_exit ⟨a, h, hF, hE⟩
  | ret =>
    intro ac hc Q a w h act hE hF
    simp only [comp, compG, Option.some.injEq] at hc; subst hc
    exact wp_ret ⟨a, h, hF, hE⟩
  | scope c1 ihx =>
    intro ac hc Q a w h
    simp only [comp, compG, Option.map_eq_some_iff] at hc
    obtain ⟨X, hX, rfl⟩ := hc
    simp only [AWW] at h
  | _ =>
    intro ac hc Q a w h
    simp only [comp, compG, Option.some.injEq] at hc; subst hc
    simp only [AWW] at h
end Go.Rf

