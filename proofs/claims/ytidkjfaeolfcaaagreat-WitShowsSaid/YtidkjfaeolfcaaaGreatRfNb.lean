import Derived.Test.YtidkjfaeolfcaaaGreatRfRun
import Derived.Test.YtidkjfaeolfcaaaGreatRfWk
import Derived.Test.YtidkjfaeolfcaaaGreatRfN1
/- Own work: a function's state, brought to a chosen form at loops and at its end (blocks get other numbers, or are frozen). -/
set_option linter.unusedVariables false
set_option linter.unusedSimpArgs false
namespace Go.Rf
open Go.RowKit

/-- As Ev, but numbers from b on mean nothing to those outside. -/
structure EvB (b : Nat) (E : Env) (S : St) (w : World) (E' : Env) (S' : St) (w' : World) : Prop where
  os : w'.os = w.os
  tape : w'.tape = w.tape
  output : w'.output = w.output
  size : w.heap.size ≤ w'.heap.size
  keep : ∀ k, k < w.heap.size → (∀ id l B, S.g id = some B → E.ρ id = some l → l.b ≠ k) → w'.heap[k]? = w.heap[k]?
  grow : ∀ id l B, S'.g id = some B → E'.ρ id = some l → w.heap.size ≤ l.b ∨ ∃ id0 l0 k0, S.g id0 = some k0 ∧ E.ρ id0 = some l0 ∧ l0.b = l.b
  leB : ∀ id l, id < b → E.ρ id = some l → E'.ρ id = some l
  leH : ∀ k cs, E.H k = some cs → E'.H k = some cs
  hsub : ∀ k cs, E'.H k = some cs → E.H k = some cs ∨ w.heap.size ≤ k ∨ ∃ id0 l0 k0, S.g id0 = some k0 ∧ E.ρ id0 = some l0 ∧ l0.b = k
  nle : b ≤ S'.n
  low : ∀ id, id < b → E.ρ id = none → E'.ρ id = none
theorem Ev.toB {b : Nat} {E E' : Env} {S S' : St} {w w' : World} (h : Ev E S w E' S' w') (hb : b ≤ S.n) : EvB b E S w E' S' w' :=
  ⟨h.evo.os, h.evo.tape, h.evo.output, h.evo.size, h.evo.keep, h.evo.grow, fun id l _ e => h.evo.le.1 id l e, h.evo.le.2, h.evo.hsub, Nat.le_trans hb h.nle, fun id hi e => h.low id (Nat.lt_of_lt_of_le hi hb) e⟩
theorem EvB.ev {E E' : Env} {S S' : St} {w w' : World} (h : EvB S.n E S w E' S' w') (hS : Sim E S w) : Ev E S w E' S' w' := by
  refine ⟨⟨h.os, h.tape, h.output, h.size, h.keep, h.grow, ⟨fun id l e => h.leB id l ?_ e, h.leH⟩, h.hsub⟩, h.nle, h.low⟩
  rcases Nat.lt_or_ge id S.n with h1 | h1
  · exact h1
  · rw [hS.fresh id h1] at e; cases e
theorem EvB.refl {b : Nat} (E : Env) (S : St) (w : World) (hb : b ≤ S.n) : EvB b E S w E S w := (Ev.refl E S w).toB hb
theorem EvB.trans {b : Nat} {E1 E2 E3 : Env} {S1 S2 S3 : St} {w1 w2 w3 : World} (h : EvB b E1 S1 w1 E2 S2 w2) (k : EvB b E2 S2 w2 E3 S3 w3) : EvB b E1 S1 w1 E3 S3 w3 := by
  refine ⟨k.os.trans h.os, k.tape.trans h.tape, k.output.trans h.output, Nat.le_trans h.size k.size, ?_, ?_, fun id l hi e => k.leB id l hi (h.leB id l hi e), fun a cs e => k.leH a cs (h.leH a cs e), ?_, k.nle, fun id hi e => k.low id hi (h.low id hi e)⟩
  · intro b hb hn
    rw [k.keep b (Nat.lt_of_lt_of_le hb h.size) ?_, h.keep b hb hn]
    intro id l kk hk hl e
    rcases h.grow id l kk hk hl with hge | ⟨id0, l0, k0, a1, a2, a3⟩
    · omega
    · exact hn id0 l0 k0 a1 a2 (a3.trans e)
  · intro id l kk hk hl
    rcases k.grow id l kk hk hl with hge | ⟨id0, l0, k0, a1, a2, a3⟩
    · left; exact Nat.le_trans h.size hge
    · rcases h.grow id0 l0 k0 a1 a2 with hge | ⟨id1, l1, k1, b1, b2, b3⟩
      · left; omega
      · right; exact ⟨id1, l1, k1, b1, b2, b3.trans a3⟩
  · intro b cs e
    rcases k.hsub b cs e with e1 | hge | ⟨id0, l0, k0, a1, a2, a3⟩
    · exact h.hsub b cs e1
    · right; left; exact Nat.le_trans h.size hge
    · rcases h.grow id0 l0 k0 a1 a2 with hge | ⟨id1, l1, k1, b1, b2, b3⟩
      · right; left; omega
      · right; right; exact ⟨id1, l1, k1, b1, b2, b3.trans a3⟩
/-- The same state, told otherwise. -/
def Abs (b : Nat) (a : AF) (S : St) (a' : AF) (S' : St) : Prop :=
  ∀ (E : Env) (w : World) (act : Act) (n : Nat), b ≤ S.n → Sim E S w → RepF E n a act → ∃ E', Sim E' S' w ∧ RepF E' n a' act ∧ EvB b E S w E' S' w
theorem Abs.refl {b : Nat} (a : AF) (S : St) : Abs b a S a S := fun E w _ _ hb hS hF => ⟨E, hS, hF, .refl _ _ _ hb⟩
def INextB (I : Nat → AF → St → Prop) (b m : Nat) : AF → St → Prop := fun a S => ∃ m' a' S', m' < m ∧ Abs b a S a' S' ∧ I m' a' S'
/-- As AW, b being the function's first number: at loops the state may be told otherwise. -/
def AWb (P : Program) (b : Nat) : AC → (Exit → AF → St → Prop) → AF → St → Prop
  | .seq x y, Q, a, S => AWb P b x (AThen (AWb P b y Q) Q) a S
  | .cond c x y, Q, a, S => match c.ev a with
    | .v (.bool t) => if t = true then AWb P b x Q a S else AWb P b y Q a S
    | _ => False
  | .block id x, Q, a, S => AWb P b x (ABlock id Q) a S
  | .loop x, Q, a, S => ∃ I : Nat → AF → St → Prop, (∃ m a0 S0', Abs b a S a0 S0' ∧ I m a0 S0') ∧ ∀ m a S, I m a S → AWb P b x (AThen (INextB I b m) Q) a S
  | .exit id, Q, a, S => Q (.exit id) a S
  | .ret, Q, a, S => Q .ret a S
  | .scp x, Q, a, S => AWb P b x (AScope Q) a S
  | .skip, Q, a, S => Q .normal a S
  | .reg d os, Q, a, S => AW P (.reg d os) Q a S
  | .regS l, Q, a, S => AW P (.regS l) Q a S
  | .regX os p, Q, a, S => AW P (.regX os p) Q a S
  | .bad, _, _, _ => False
def leafAC : AC → Bool
  | .reg .. | .regS .. | .regX .. | .bad => true
  | _ => false
theorem AWb_leaf {P : Program} {b : Nat} {ac : AC} (h : leafAC ac = true) {Q : Exit → AF → St → Prop} {a : AF} {S : St} (k : AWb P b ac Q a S) : AW P ac Q a S := by
  cases ac <;> simp only [leafAC, Bool.false_eq_true] at h <;> simp only [AWb] at k <;> first | exact k | exact k.elim
theorem AWb_mono {P : Program} {b : Nat} : ∀ (ac : AC) {Q Q' : Exit → AF → St → Prop} {a : AF} {S : St}, (∀ e a S, Q e a S → Q' e a S) → AWb P b ac Q a S → AWb P b ac Q' a S := by
  intro ac
  induction ac with
  | skip => intro Q Q' a S hq h; exact hq _ _ _ h
  | reg d os => intro Q Q' a S hq h; exact AW_mono _ hq h
  | regS l => intro Q Q' a S hq h; exact AW_mono _ hq h
  | regX os p => intro Q Q' a S hq h; exact AW_mono _ hq h
  | seq x y ihx ihy =>
    intro Q Q' a S hq h
    refine ihx (Q := AThen (AWb P b y Q) Q) (fun e a S h => ?_) h
    cases e with
    | normal => exact ihy hq h
    | _ => exact hq _ _ _ h
  | cond c x y ihx ihy =>
    intro Q Q' a S hq h
    simp only [AWb] at h ⊢
    split at h
    · rename_i b hb
      split at h
      · rename_i hbt; rw [if_pos hbt]; exact ihx hq h
      · rename_i hbt; rw [if_neg hbt]; exact ihy hq h
    · exact h.elim
  | block id x ihx =>
    intro Q Q' a S hq h
    refine ihx (Q := ABlock id Q) (fun e a S h => ?_) h
    cases e with
    | exit j =>
      simp only [ABlock] at h ⊢
      split at h
      · rename_i hj; rw [if_pos hj]; exact hq _ _ _ h
      · rename_i hj; rw [if_neg hj]; exact hq _ _ _ h
    | _ => exact hq _ _ _ h
  | loop x ihx =>
    intro Q Q' a S hq h
    obtain ⟨I, h1, h2⟩ := h
    refine ⟨I, h1, fun m a S hi => ihx (fun e a S h => ?_) (h2 m a S hi)⟩
    cases e with
    | normal => exact h
    | _ => exact hq _ _ _ h
  | exit id => intro Q Q' a S hq h; exact hq _ _ _ h
  | ret => intro Q Q' a S hq h; exact hq _ _ _ h
  | scp x ihx =>
    intro Q Q' a S hq h
    refine ihx (Q := AScope Q) (fun e a S h => ?_) h
    cases e with
    | goto l => exact h
    | _ => exact hq _ _ _ h
  | bad => intro Q Q' a S hq h; exact h
/-- What holds of the state as it comes holds. -/
theorem AW.toB {P : Program} {b : Nat} : ∀ (ac : AC) {Q : Exit → AF → St → Prop} {a : AF} {S : St}, AW P ac Q a S → AWb P b ac Q a S := by
  intro ac
  induction ac with
  | skip => intro Q a S h; exact h
  | reg d os => intro Q a S h; exact h
  | regS l => intro Q a S h; exact h
  | regX os p => intro Q a S h; exact h
  | seq x y ihx ihy =>
    intro Q a S h
    have h1 : AW P x (AThen (AWb P b y Q) Q) a S := AW_mono _ (fun e a S k => by
      cases e with
      | normal => exact ihy k
      | _ => exact k) h
    exact ihx h1
  | cond c x y ihx ihy =>
    intro Q a S h
    simp only [AW] at h
    simp only [AWb]
    split at h
    · rename_i t ht
      split at h
      · rename_i hbt; simp only [ht, hbt, if_true]; exact ihx h
      · rename_i hbt; simp only [ht, if_neg hbt]; exact ihy h
    · exact h.elim
  | block id x ihx => intro Q a S h; exact ihx h
  | loop x ihx =>
    intro Q a S h
    obtain ⟨I, ⟨m, h1⟩, h2⟩ := h
    refine ⟨I, ⟨m, a, S, .refl _ _, h1⟩, fun m a S hi => ihx (AW_mono _ (fun e a S k => ?_) (h2 m a S hi))⟩
    cases e with
    | normal => obtain ⟨m', k1, k2⟩ := k; exact ⟨m', a, S, k1, .refl _ _, k2⟩
    | _ => exact k
  | exit id => intro Q a S h; exact h
  | ret => intro Q a S h; exact h
  | scp x ihx => intro Q a S h; exact ihx h
  | bad => intro Q a S h; exact h
/-! ### soundness -/
def PostB (b : Nat) (E0 : Env) (S0 : St) (w0 : World) (n : Nat) (Q : Exit → AF → St → Prop) : Exit → Act → World → Prop :=
  fun e act w => ∃ a S E, Q e a S ∧ Sim E S w ∧ RepF E n a act ∧ EvB b E0 S0 w0 E S w
def AWpB (P : Program) (b n : Nat) (c : Code) (Q : Exit → AF → St → Prop) (a : AF) (S : St) : Prop :=
  ∀ E w act, Gam P E.H → b ≤ S.n → Sim E S w → RepF E n a act → c.wp P (PostB b E S w n Q) act w
theorem PostB.trans {b : Nat} {E0 E1 : Env} {S0 S1 : St} {w0 w1 : World} {n : Nat} {Q : Exit → AF → St → Prop} {e : Exit} {act : Act} {w : World} (h : EvB b E0 S0 w0 E1 S1 w1) (k : PostB b E1 S1 w1 n Q e act w) : PostB b E0 S0 w0 n Q e act w :=
  let ⟨a, S, E, h1, h2, h3, h4⟩ := k; ⟨a, S, E, h1, h2, h3, h.trans h4⟩
theorem aw_soundB {P : Program} {n b : Nat} {R : Program → Nat → Bool → Array Oper → AC} (hR : RegOk P n R) (hL : ∀ d ops, leafAC (R P n d ops) = true) : ∀ (c : Code) (ac : AC), compG R P n c = some ac → ∀ (Q : Exit → AF → St → Prop) (a : AF) (S : St), AWb P b ac Q a S → AWpB P b n c Q a S := by
  intro c
  induction c with
  | skip =>
    intro ac hc Q a S h E w act hG hb hS hF
    simp only [compG, Option.some.injEq] at hc; subst hc
    exact wp_skip ⟨a, S, E, h, hS, hF, .refl _ _ _ hb⟩
  | label l =>
    intro ac hc Q a S h E w act hG hb hS hF
    simp only [compG, Option.some.injEq] at hc; subst hc
    exact wp_label ⟨a, S, E, h, hS, hF, .refl _ _ _ hb⟩
  | region id ops dr =>
    intro ac hc Q a S h E w act hG hb hS hF
    rw [compG_region hc] at h
    refine wp_mono (hR id ops dr Q a S (AWb_leaf (hL _ _) h) E w act hG hS hF) fun e act' w' hp => ?_
    obtain ⟨a', S', E', q, s, r, ev⟩ := hp
    exact ⟨a', S', E', q, s, r, ev.toB hb⟩
  | seq c1 c2 ihx ihy =>
    intro ac hc Q a S h E w act hG hb hS hF
    simp only [compG, Option.map_eq_some_iff, Option.bind_eq_some_iff] at hc
    obtain ⟨X, hX, Y, hY, rfl⟩ := hc
    simp only [AWb] at h
    refine wp_seq (wp_mono (ihx X hX _ a S h E w act hG hb hS hF) fun e act' w' hp => ?_)
    obtain ⟨a', S', E', q, s, r, ev⟩ := hp
    cases e with
    | normal => exact wp_mono (ihy Y hY Q a' S' q E' w' act' (hG.sub ev.leH) ev.nle s r) fun e act2 w2 hp2 => hp2.trans ev
    | _ => exact ⟨a', S', E', q, s, r, ev⟩
  | cond c0 c1 c2 ihx ihy =>
    intro ac hc Q a S h E w act hG hb hS hF
    simp only [compG, Option.map_eq_some_iff, Option.bind_eq_some_iff] at hc
    obtain ⟨C', hC, X, hX, Y, hY, rfl⟩ := hc
    simp only [AWb] at h
    split at h
    · rename_i t ht
      have r := ofOperand_ok hF hC
      rw [ht] at r
      refine wp_cond (t := t) r.v_inv ?_
      cases t with
      | true => exact ihx X hX Q a S (by simpa using h) E w act hG hb hS hF
      | false => exact ihy Y hY Q a S (by simpa using h) E w act hG hb hS hF
    · exact h.elim
  | block id' c1 ihx =>
    intro ac hc Q a S h E w act hG hb hS hF
    simp only [compG, Option.map_eq_some_iff] at hc
    obtain ⟨X, hX, rfl⟩ := hc
    simp only [AWb] at h
    refine wp_block (wp_mono (ihx X hX _ a S h E w act hG hb hS hF) fun e act' w' hp => ?_)
    obtain ⟨a', S', E', q, s, r, ev⟩ := hp
    cases e with
    | exit j =>
      simp only [ABlock] at q
      simp only [Exit.inBlock]
      split at q
      · rename_i hj; rw [if_pos hj]; exact ⟨a', S', E', q, s, r, ev⟩
      · rename_i hj; rw [if_neg hj]; exact ⟨a', S', E', q, s, r, ev⟩
    | _ => exact ⟨a', S', E', q, s, r, ev⟩
  | loop c1 ihx =>
    intro ac hc Q a S h E w act hG hb hS hF
    simp only [compG, Option.map_eq_some_iff] at hc
    obtain ⟨X, hX, rfl⟩ := hc
    simp only [AWb] at h
    obtain ⟨I, ⟨m0, a0, S0', habs, hI0⟩, hround⟩ := h
    obtain ⟨E0', hS0, hF0, ev0⟩ := habs E w act n hb hS hF
    intro bk k cs
    have key : ∀ m, ∀ a S E' w' act', Gam P E'.H → I m a S → b ≤ S.n → Sim E' S w' → RepF E' n a act' →
        ∃ e a' w2, PostB b E' S w' n Q e a' w2 ∧ Arrives P (lone (bk.at act' (.code c1 :: .inLoop c1 :: k)) cs w') bk k cs e a' w2 := by
      intro m
      induction m using Nat.strongRecOn with
      | _ m ih =>
        intro a S E' w' act' hG' hI hb' hS' hF'
        obtain ⟨e, act1, w1, hp, harr⟩ := ihx X hX _ a S (hround m a S hI) E' w' act' hG' hb' hS' hF' bk (.inLoop c1 :: k) cs
        obtain ⟨a1, S1, E1, q, s, r, ev⟩ := hp
        cases e with
        | normal =>
          obtain ⟨m', a2, S2, hlt, habs2, hI'⟩ := q
          obtain ⟨E2, s2, r2, ev2⟩ := habs2 E1 w1 act1 n ev.nle s r
          obtain ⟨e2, act2, w2, hp2, harr2⟩ := ih m' hlt a2 S2 E2 w1 act1 (hG'.sub (ev.trans ev2).leH) hI' ev2.nle s2 r2
          exact ⟨e2, act2, w2, hp2.trans (ev.trans ev2), .of_steps (Steps.trans harr (.one step_inLoop)) harr2⟩
        | exit id => exact ⟨_, act1, w1, ⟨a1, S1, E1, q, s, r, ev⟩, .pass (x := .inLoop c1) rfl (fun _ _ => .inl (by simp)) harr⟩
        | goto l => exact ⟨_, act1, w1, ⟨a1, S1, E1, q, s, r, ev⟩, .pass (x := .inLoop c1) rfl (fun _ _ => .inl (by simp)) harr⟩
        | ret => exact ⟨_, act1, w1, ⟨a1, S1, E1, q, s, r, ev⟩, .pass (x := .inLoop c1) rfl (fun _ _ => .inl (by simp)) harr⟩
        | panic ch => exact ⟨_, act1, w1, ⟨a1, S1, E1, q, s, r, ev⟩, .pass (x := .inLoop c1) rfl (fun _ _ => .inl (by simp)) harr⟩
        | outgrown => exact ⟨_, act1, w1, ⟨a1, S1, E1, q, s, r, ev⟩, .pass (x := .inLoop c1) rfl (fun _ _ => .inl (by simp)) harr⟩
    obtain ⟨e, a', w', hp, harr⟩ := key m0 a0 S0' E0' w act (hG.sub ev0.leH) hI0 ev0.nle hS0 hF0
    exact ⟨e, a', w', hp.trans ev0, .of_steps (.one step_loop) harr⟩
  | exit id =>
    intro ac hc Q a S h E w act hG hb hS hF
    simp only [compG, Option.some.injEq] at hc; subst hc
    exact wp_exit ⟨a, S, E, h, hS, hF, .refl _ _ _ hb⟩
  | ret =>
    intro ac hc Q a S h E w act hG hb hS hF
    simp only [compG, Option.some.injEq] at hc; subst hc
    exact wp_ret ⟨a, S, E, h, hS, hF, .refl _ _ _ hb⟩
  | scope c1 ihx =>
    intro ac hc Q a S h E w act hG hb hS hF
    simp only [compG, Option.map_eq_some_iff] at hc
    obtain ⟨X, hX, rfl⟩ := hc
    simp only [AWb] at h
    refine wp_scope_straight (wp_mono (ihx X hX _ a S h E w act hG hb hS hF) fun e act' w' hp => ?_)
    obtain ⟨a', S', E', q, s, r, ev⟩ := hp
    cases e with
    | goto l => exact q
    | _ => exact ⟨a', S', E', q, s, r, ev⟩
  | _ =>
    intro ac hc Q a S h
    simp only [compG, Option.some.injEq] at hc; subst hc
    simp only [AWb] at h
theorem leaf_regC {P : Program} {n : Nat} (d : Bool) (ops : Array Oper) : leafAC (regC P n d ops) = true := by
  unfold regC regOr
  split <;> rfl
theorem leaf_regD {P : Program} {n : Nat} (d : Bool) (ops : Array Oper) : leafAC (regD P n d ops) = true := by
  unfold regD
  split
  · split
    · split
      · rfl
      · exact leaf_regC _ _
    · exact leaf_regC _ _
  · exact leaf_regC _ _
/-! ### functions -/
/-- At the end the state may be told otherwise. -/
def RetN (b : Nat) (ts : List Nat) (K : AV → St → Prop) : Exit → AF → St → Prop := fun e a S => ∃ a' S', Abs b a S a' S' ∧ RetK ts K e a' S'
def RetNC (b : Nat) (rs : List RV) (K : AV → St → Prop) : Exit → AF → St → Prop := fun e a S => ∃ a' S', Abs b a S a' S' ∧ RetC rs K e a' S'
theorem Is.callB {P : Program} (hm : P.follows .mixedOrders = true) {f : FuncId} {ac : AC} {ts : List Nat} {n : Nat} (h : Is P f ac ts n) {args : List AV} (hn : args.length = n) {S : St} {K : AV → St → Prop}
    (hb : AWb P S.n ac (RetN S.n ts K) (argF args) S) : CallR P f args S K := by
  obtain ⟨fn, c, hf, hnm, hbd, hc, hr, h6⟩ := h
  refine ⟨callable_of hf hnm hbd, fun E w vals hG hS hv => ?_⟩
  refine calls_of_wp hf hbd (wp_mono (aw_soundB (regC_ok hm) leaf_regC c ac hc _ _ _ hb E w _ hG (Nat.le_refl _) hS (repF_args hv (by omega))) fun e act w' hp => ?_)
  obtain ⟨a1, S1, E1, ⟨a, S', habs, q⟩, s1, r1, ev1⟩ := hp
  obtain ⟨E', s, r, ev2⟩ := habs E1 w' act _ ev1.nle s1 r1
  have ev := (ev1.trans ev2).ev hS
  have hrr := run_results (P := P) hr act.tmps w'
  cases e <;> simp only [RetK] at q
  · exact ⟨r.defers, _, hrr, _, _, S', E', rfl, q, s, retAV_rep r ts, ev⟩
  · exact ⟨r.defers, _, hrr, _, _, S', E', rfl, q, s, retAV_rep r ts, ev⟩
theorem Is.pureB {P : Program} (hm : P.follows .mixedOrders = true) {f : FuncId} {ac : AC} {ts : List Nat} {n : Nat} (h : Is P f ac ts n) {args : List AV} (hn : args.length = n) {r : AV}
    (hb : AWb P 0 ac (RetK ts (FzK r)) (argF args) S0) : PureC P f args r :=
  .of_callR (h.callB hm hn (AWb_mono _ (fun e a S k => ⟨a, S, .refl _ _, k⟩) hb))
theorem callB_cell {P : Program} {f : FuncId} {ac : AC} {rs : List RV} {n : Nat} {R : Program → Nat → Bool → Array Oper → AC} (hR : ∀ k, RegOk P k R) (hL : ∀ k d ops, leafAC (R P k d ops) = true)
    (h : ∃ fn c, P.funcs[f]? = some fn ∧ (fn.name == "runtime.NumGoroutine") = false ∧ fn.body = some c ∧ compG R P fn.ntmps c = some ac ∧ fn.results.toList.mapM (rvOf P) = some rs ∧ n ≤ fn.ntmps) {args : List AV} (hn : args.length = n) {S : St} {K : AV → St → Prop}
    (hb : AWb P S.n ac (RetNC S.n rs K) (argF args) S) : CallR P f args S K := by
  obtain ⟨fn, c, hf, hnm, hbd, hc, hr, h6⟩ := h
  refine ⟨callable_of hf hnm hbd, fun E w vals hG hS hv => ?_⟩
  refine calls_of_wp hf hbd (wp_mono (aw_soundB (hR _) (hL _) c ac hc _ _ _ hb E w _ hG (Nat.le_refl _) hS (repF_args hv (by omega))) fun e act w' hp => ?_)
  obtain ⟨a1, S1, E1, ⟨a, S', habs, q⟩, s1, r1, ev1⟩ := hp
  obtain ⟨E', s, r, ev2⟩ := habs E1 w' act _ ev1.nle s1 r1
  have ev := (ev1.trans ev2).ev hS
  cases e <;> simp only [RetC] at q
  · obtain ⟨xs, q1, q2⟩ := q
    obtain ⟨val, k1, k2⟩ := run_resultsC (P := P) (fn := fn) s r hr q1
    exact ⟨r.defers, _, k1, _, _, S', E', rfl, q2, s, k2, ev⟩
  · obtain ⟨xs, q1, q2⟩ := q
    obtain ⟨val, k1, k2⟩ := run_resultsC (P := P) (fn := fn) s r hr q1
    exact ⟨r.defers, _, k1, _, _, S', E', rfl, q2, s, k2, ev⟩
theorem IsC.callB {P : Program} (hm : P.follows .mixedOrders = true) {f : FuncId} {ac : AC} {rs : List RV} {n : Nat} (h : IsC P f ac rs n) {args : List AV} (hn : args.length = n) {S : St} {K : AV → St → Prop}
    (hb : AWb P S.n ac (RetNC S.n rs K) (argF args) S) : CallR P f args S K := callB_cell (fun _ => regC_ok hm) (fun _ => leaf_regC) h hn hb
theorem IsS.callB {P : Program} (hm : P.follows .mixedOrders = true) {f : FuncId} {ac : AC} {rs : List RV} {n : Nat} (h : IsS P f ac rs n) {args : List AV} (hn : args.length = n) {S : St} {K : AV → St → Prop}
    (hb : AWb P S.n ac (RetNC S.n rs K) (argF args) S) : CallR P f args S K := callB_cell (fun _ => regD_ok hm) (fun _ => leaf_regD) h hn hb
theorem IsC.pureB {P : Program} (hm : P.follows .mixedOrders = true) {f : FuncId} {ac : AC} {rs : List RV} {n : Nat} (h : IsC P f ac rs n) {args : List AV} (hn : args.length = n) {r : AV}
    (hb : AWb P 0 ac (RetC rs (FzK r)) (argF args) S0) : PureC P f args r :=
  .of_callR (h.callB hm hn (AWb_mono _ (fun e a S k => ⟨a, S, .refl _ _, k⟩) hb))
theorem IsS.pureB {P : Program} (hm : P.follows .mixedOrders = true) {f : FuncId} {ac : AC} {rs : List RV} {n : Nat} (h : IsS P f ac rs n) {args : List AV} (hn : args.length = n) {r : AV}
    (hb : AWb P 0 ac (RetC rs (FzK r)) (argF args) S0) : PureC P f args r :=
  .of_callR (h.callB hm hn (AWb_mono _ (fun e a S k => ⟨a, S, .refl _ _, k⟩) hb))
end Go.Rf


/- Own work: blocks renamed, and frozen. -/
set_option linter.unusedVariables false
set_option linter.unusedSimpArgs false
namespace Go.Rf
open Go.RowKit

/-- x as it is told anew: the blocks of gF are frozen, R j i: number i is j now. -/
inductive RenV (gF : Nat → Option Blk) (R : Nat → Nat → Prop) : AV → AV → Prop
  | fz (x y : AV) (h : Fz gF x y) : RenV gF R x y
  | wk (x y : AV) (hc : Closed x) (h : Wk x y) : RenV gF R x y
  | own (id j off len : Nat) (h : R j id) : RenV gF R (.own id off len) (.own j off len)
  | ptr (id j ix c : Nat) (h : R j id) : RenV gF R (.ptr id ix c) (.ptr j ix c)
  | mp (id j : Nat) (h : R j id) : RenV gF R (.mp id) (.mp j)
  | agg (cs ds : List AV) (hl : ds.length = cs.length) (h : ∀ i (h1 : i < cs.length) (h2 : i < ds.length), RenV gF R (cs[i]) (ds[i])) : RenV gF R (.agg cs) (.agg ds)
  | tup (cs ds : List AV) (hl : ds.length = cs.length) (h : ∀ i (h1 : i < cs.length) (h2 : i < ds.length), RenV gF R (cs[i]) (ds[i])) : RenV gF R (.tup cs) (.tup ds)
  | clo (f : FuncId) (as bs as' bs' : List AV) (hl : as'.length = as.length) (hm : bs'.length = bs.length) (h : ∀ i (h1 : i < as.length) (h2 : i < as'.length), RenV gF R (as[i]) (as'[i]))
      (k : ∀ i (h1 : i < bs.length) (h2 : i < bs'.length), RenV gF R (bs[i]) (bs'[i])) : RenV gF R (.clo f as bs) (.clo f as' bs')
def RenL (gF : Nat → Option Blk) (R : Nat → Nat → Prop) (xs ys : List AV) : Prop := ys.length = xs.length ∧ ∀ i (h1 : i < xs.length) (h2 : i < ys.length), RenV gF R (xs[i]) (ys[i])
section
variable {gF : Nat → Option Blk} {R : Nat → Nat → Prop}
theorem RenV.cells {x r : AV} (h : RenV gF R x r) : r.cells.length = x.cells.length ∧ (x.atom = true → r.atom = true) ∧ ∀ i (h1 : i < x.cells.length) (h2 : i < r.cells.length), RenV gF R (x.cells[i]) (r.cells[i]) := by
  cases h with
  | fz _ _ h => exact ⟨h.cells.1, h.cells.2.1, fun i h1 h2 => .fz _ _ (h.cells.2.2 i h1 h2)⟩
  | wk _ _ hc h => exact ⟨h.f.len, h.f.atom, fun i h1 h2 => .wk _ _ (hc.cells _ (List.getElem_mem _)) (h.cells i h1 h2)⟩
  | own id j off len h => exact ⟨rfl, fun _ => rfl, fun i h1 h2 => by simp [AV.cells] at h1; subst h1; exact .own id j off len h⟩
  | ptr id j ix c h => exact ⟨rfl, fun _ => rfl, fun i h1 h2 => by simp [AV.cells] at h1; subst h1; exact .ptr id j ix c h⟩
  | mp id j h => exact ⟨rfl, fun _ => rfl, fun i h1 h2 => by simp [AV.cells] at h1; subst h1; exact .mp id j h⟩
  | agg cs ds hl h => exact ⟨hl, fun e => by simp [AV.atom] at e, h⟩
  | tup cs ds hl h => exact ⟨rfl, fun e => by simp [AV.atom] at e, fun i h1 h2 => by simp [AV.cells] at h1; subst h1; exact .tup cs ds hl h⟩
  | clo f as bs as' bs' hl hm h k => exact ⟨rfl, fun _ => rfl, fun i h1 h2 => by simp [AV.cells] at h1; subst h1; exact .clo f as bs as' bs' hl hm h k⟩
theorem ren_flat : ∀ {xs zs : List AV}, RenL gF R xs zs → (flat zs).length = (flat xs).length ∧ ∀ k (h1 : k < (flat xs).length) (h2 : k < (flat zs).length), RenV gF R ((flat xs)[k]) ((flat zs)[k])
  | [], [], _ => ⟨rfl, fun k h1 => by simp [flat] at h1⟩
  | [], _ :: _, h => by have := h.1; simp at this
  | _ :: _, [], h => by have := h.1; simp at this
  | x :: xs, z :: zs, h => by
    obtain ⟨i1, i2⟩ := ren_flat (xs := xs) (zs := zs) ⟨by simpa using h.1, fun i h1 h2 => h.2 (i + 1) (by simpa using h1) (by simpa using h2)⟩
    obtain ⟨c1, _, c3⟩ := (h.2 0 (by simp) (by simp)).cells
    simp only [List.getElem_cons_zero] at c1 c3
    have e1 : flat (x :: xs) = x.cells ++ flat xs := by simp [flat]
    have e2 : flat (z :: zs) = z.cells ++ flat zs := by simp [flat]
    refine ⟨by rw [e1, e2]; simp [c1, i1], fun k h1 h2 => ?_⟩
    simp only [e1, e2] at h1 h2 ⊢
    by_cases hk : k < x.cells.length
    · rw [List.getElem_append_left hk, List.getElem_append_left (by omega)]
      exact c3 k hk (by omega)
    · rw [List.getElem_append_right (by omega), List.getElem_append_right (by omega)]
      simp only [c1]
      exact i2 _ _ _
theorem RenV.rep {E : Env} {S : St} {w : World} (hS : Sim E S w) (hg : ∀ i k, gF i = some k → S.g i = some k) {E2 : Env} (hH : ∀ b cs, E.H b = some cs → E2.H b = some cs)
    (hL : ∀ id es xs l, gF id = some (.arr es xs) → E.ρ id = some l → ∀ cs el fz, w.heap[l.b]? = some (.cells cs el fz) → E2.H l.b = some cs)
    (hR : ∀ j i l, R j i → E.ρ i = some l → E2.ρ j = some l) : ∀ {x r : AV}, RenV gF R x r → ∀ {v : Value}, Rep E x v → Rep E2 r v := by
  intro x r h
  induction h with
  | fz x y h => intro v hr; exact Fz.rep hS hg hH hL h hr
  | wk x y hc h => intro v hr; exact h.f.rep _ _ (hr.closed hH hc)
  | own id j off len h =>
    intro v hr
    cases hr with
    | own _ _ _ A cap l hl hlen hA => exact .own j off len A cap l (hR _ _ _ h hl) hlen hA
  | ptr id j ix c h =>
    intro v hr
    cases hr with
    | ptr _ _ _ l hl => exact .ptr j ix c l (hR _ _ _ h hl)
  | mp id j h =>
    intro v hr
    cases hr with
    | mp _ l hl => exact .mp j l (hR _ _ _ h hl)
  | agg cs ds hl h ih =>
    intro v hr
    cases hr with
    | agg _ vs hn hat hr =>
      refine .agg ds vs (by omega) (fun y hy => ?_) (fun j hj => ih j (by omega) hj (hr j (by omega)))
      obtain ⟨k, hk, e⟩ := List.mem_iff_getElem.mp hy
      rw [← e]
      exact (h k (by omega) hk).cells.2.1 (hat _ (List.getElem_mem _))
  | tup cs ds hl h ih =>
    intro v hr
    cases hr with
    | tup _ vs hn hr => exact .tup ds vs (by omega) (fun j hj => ih j (by omega) hj (hr j (by omega)))
  | clo f as bs as' bs' hl hm h k ih1 ih2 =>
    intro v hr
    cases hr with
    | clo _ _ _ fv cv hn hm' hf hc => exact .clo f as' bs' fv cv (by omega) (by omega) (fun j hj => ih1 j (by omega) hj (hf j (by omega))) (fun j hj => ih2 j (by omega) hj (hc j (by omega)))
end
inductive RenB (gF : Nat → Option Blk) (R : Nat → Nat → Prop) : Blk → Blk → Prop
  | arr (es : Nat) (xs ys : List AV) (h : RenL gF R xs ys) : RenB gF R (.arr es xs) (.arr es ys)
  | map (es fs : List (AV × AV)) (hl : fs.length = es.length) (h : ∀ i (h1 : i < es.length) (h2 : i < fs.length), RenV gF R (es[i]).1 (fs[i]).1 ∧ RenV gF R (es[i]).2 (fs[i]).2) : RenB gF R (.map es) (.map fs)
theorem RenB.ok {gF : Nat → Option Blk} {R : Nat → Nat → Prop} {E E2 : Env} {w : World} {l : Loc} {k k' : Blk} (h : RenB gF R k k') (hrep : ∀ {x y : AV}, RenV gF R x y → ∀ {v : Value}, Rep E x v → Rep E2 y v) (hok : BlkOk E w l k) : BlkOk E2 w l k' := by
  cases h with
  | arr es xs ys h =>
    obtain ⟨h1, h2, h3, h4, cs, el, h5, h6, h7⟩ := hok
    obtain ⟨f1, f2⟩ := ren_flat h
    refine ⟨h1, by rw [h.1]; exact h2, fun y hy => ?_, fun y hy => ?_, cs, el, h5, h6, fun k hk => ?_⟩
    · obtain ⟨i, hi, rfl⟩ := List.mem_iff_getElem.mp hy
      have hi' : i < xs.length := by have := h.1; omega
      rw [(h.2 i hi' hi).cells.1]; exact h3 _ (List.getElem_mem hi')
    · obtain ⟨i, hi, rfl⟩ := List.mem_iff_getElem.mp hy
      have hi' : i < (flat xs).length := by omega
      exact (f2 i hi' hi).cells.2.1 (h4 _ (List.getElem_mem hi'))
    · have hi' : k < (flat xs).length := by omega
      obtain ⟨v, a, b⟩ := h7 k hi'
      exact ⟨v, a, hrep (f2 k hi' hk) b⟩
  | map es fs hl h =>
    obtain ⟨cs, clock, h1, h2, h3⟩ := hok
    refine ⟨cs, clock, h1, by omega, fun k hk => ?_⟩
    obtain ⟨e, a, b, c⟩ := h3 k (by omega)
    exact ⟨e, a, hrep (h k (by omega) hk).1 b, hrep (h k (by omega) hk).2 c⟩
/-! ### states told by lists -/
def gOf : List (Nat × Option Blk) → Nat → Option Blk
  | [], _ => none
  | (j, b) :: l, i => if i = j then b else gOf l i
def afOf : List (Nat × AV) → AF
  | [], _ => .junk
  | (j, x) :: l, t => if t = j then x else afOf l t
theorem Z3e (i : Nat) : gOf [] i = none := by simp only [gOf]
theorem Z3d (j : Nat) (b : Option Blk) (l : List (Nat × Option Blk)) (i : Nat) : gOf ((j, b) :: l) i = if i = j then b else gOf l i := by simp only [gOf]
theorem Z23 (t : Nat) : afOf [] t = .junk := by simp only [afOf]
theorem Z22 (j : Nat) (x : AV) (l : List (Nat × AV)) (t : Nat) : afOf ((j, x) :: l) t = if t = j then x else afOf l t := by simp only [afOf]
theorem gOf_mem : ∀ {l : List (Nat × Option Blk)} {i : Nat} {k : Blk}, gOf l i = some k → (i, some k) ∈ l
  | [], i, k, h => by simp [gOf] at h
  | (j, b) :: l, i, k, h => by
    simp only [gOf] at h
    split at h
    · rename_i e; subst e; subst h; simp
    · exact List.mem_cons_of_mem _ (gOf_mem h)
theorem afOf_mem : ∀ {l : List (Nat × AV)} {t : Nat}, afOf l t = .junk ∨ (t, afOf l t) ∈ l
  | [], t => .inl rfl
  | (j, x) :: l, t => by
    simp only [afOf]
    split
    · rename_i e; subst e; exact .inr (by simp)
    · rcases afOf_mem (l := l) (t := t) with h | h
      · exact .inl h
      · exact .inr (List.mem_cons_of_mem _ h)
def relO (o : List (Nat × Nat)) (b : Nat) (j i : Nat) : Prop := (j, i) ∈ o ∨ (j = i ∧ i < b)
structure OOk (o : List (Nat × Nat)) (F : List Nat) (b N : Nat) : Prop where
  a : ∀ p ∈ o, p.1 < N ∧ (p.1 < b → p.2 = p.1) ∧ p.2 ∉ F
  u : o.Pairwise fun p q => p.1 ≠ q.1 ∧ p.2 ≠ q.2
theorem lookup_of : ∀ {o : List (Nat × Nat)} (hu : o.Pairwise fun p q => p.1 ≠ q.1 ∧ p.2 ≠ q.2) {j i : Nat}, (j, i) ∈ o → o.lookup j = some i
  | [], _, j, i, h => by simp at h
  | (j', i') :: o, hu, j, i, h => by
    rw [List.pairwise_cons] at hu
    rw [List.lookup_cons]
    rcases List.mem_cons.mp h with h | h
    · cases h; simp
    · have hne := (hu.1 _ h).1
      have hb : (j == j') = false := by simpa using fun e => hne e.symm
      rw [hb]
      exact lookup_of hu.2 h
theorem mem_lookup : ∀ {o : List (Nat × Nat)} {j i : Nat}, o.lookup j = some i → (j, i) ∈ o
  | [], j, i, h => by simp at h
  | (j', i') :: o, j, i, h => by
    rw [List.lookup_cons] at h
    split at h
    · rename_i e; simp only [beq_iff_eq] at e; cases h; subst e; simp
    · exact List.mem_cons_of_mem _ (mem_lookup h)
theorem o_inj {o : List (Nat × Nat)} (hu : o.Pairwise fun p q => p.1 ≠ q.1 ∧ p.2 ≠ q.2) {j1 j2 i1 i2 : Nat} (h1 : (j1, i1) ∈ o) (h2 : (j2, i2) ∈ o) (hne : j1 ≠ j2) : i1 ≠ i2 := by
  induction o with
  | nil => simp at h1
  | cons p o ih =>
    rw [List.pairwise_cons] at hu
    rcases List.mem_cons.mp h1 with e1 | h1
    · rcases List.mem_cons.mp h2 with e2 | h2
      · rw [← e1] at e2; cases e2; exact (hne rfl).elim
      · have := (hu.1 _ h2).2; rw [← e1] at this; exact this
    · rcases List.mem_cons.mp h2 with e2 | h2
      · have := (hu.1 _ h1).2; rw [← e2] at this; exact fun e => this e.symm
      · exact ih hu.2 h1 h2
def RenO (gF : Nat → Option Blk) (R : Nat → Nat → Prop) (k : Option Blk) (k' : Option Blk) : Prop := ∀ b', k' = some b' → ∃ b, k = some b ∧ RenB gF R b b'
/-- Blocks are renamed by o (new, old), those of F frozen; what A and G don't name is forgotten. -/
theorem Abs.of {b : Nat} {a : AF} {S : St} (o : List (Nat × Nat)) (F : List Nat) {A : List (Nat × AV)} {N : Nat} {G : List (Nat × Option Blk)} (hb : b ≤ N) (ho : OOk o F b N)
    (hG : ∀ p ∈ G, p.2 = none ∨ ∃ i, (p.1, i) ∈ o ∧ RenO (only F S.g) (relO o b) (S.g i) p.2) (hA : ∀ p ∈ A, RenV (only F S.g) (relO o b) (a p.1) p.2) : Abs b a S (afOf A) ⟨N, gOf G⟩ := by
  intro E w act n hbS hS hF
  have hg : ∀ i k, only F S.g i = some k → S.g i = some k := only_sub
  let ρ' : Nat → Option Loc := fun j => if j < b then E.ρ j else match o.lookup j with | some i => E.ρ i | none => none
  let E2 : Env := ⟨ρ', stillH E (only F S.g) w⟩
  have hR : ∀ j i l, relO o b j i → E.ρ i = some l → E2.ρ j = some l := by
    intro j i l hji hl
    show ρ' j = some l
    simp only [ρ']
    rcases hji with h | ⟨rfl, h⟩
    · split
      · rename_i hj
        have e : i = j := (ho.a _ h).2.1 hj
        rw [e] at hl; exact hl
      · rw [lookup_of ho.u h]; exact hl
    · rw [if_pos h]; exact hl
  have hH : ∀ b cs, E.H b = some cs → E2.H b = some cs := fun b cs e => stillH_of e
  have hL : ∀ id es xs l, only F S.g id = some (.arr es xs) → E.ρ id = some l → ∀ cs el fz, w.heap[l.b]? = some (.cells cs el fz) → E2.H l.b = some cs := by
    intro id es xs l hgi hli cs el fz hw
    obtain ⟨l', a1, a2, _⟩ := hS.live id _ (hg _ _ hgi)
    rw [hli] at a1; cases a1
    exact stillH_g hgi hli a2 hw
  have hrep : ∀ {x y : AV}, RenV (only F S.g) (relO o b) x y → ∀ {v : Value}, Rep E x v → Rep E2 y v := fun h _ hv => h.rep hS hg hH hL hR hv
  have hlive : ∀ j k', gOf G j = some k' → ∃ i k, (j, i) ∈ o ∧ S.g i = some k ∧ RenB (only F S.g) (relO o b) k k' := by
    intro j k' h
    rcases hG _ (gOf_mem h) with h1 | ⟨i, h1, h2⟩
    · simp at h1
    · obtain ⟨k, h3, h4⟩ := h2 k' rfl
      exact ⟨i, k, h1, h3, h4⟩
  refine ⟨E2, ⟨fun k cs e => ?_, fun j k' e => ?_, fun j1 j2 k1 k2 l1 l2 e1 e2 hne r1 r2 => ?_, fun j hj => ?_⟩, ⟨hF.size, hF.defers, fun t => ?_⟩, ⟨rfl, rfl, rfl, Nat.le_refl _, fun _ _ _ => rfl, fun j l k' e hl => ?_, fun id l hi e => ?_, hH, fun k cs e => ?_, hb, fun id hi e => ?_⟩⟩
  · rcases stillH_inv e with h1 | ⟨_, h1, _⟩
    · exact hS.hH k cs h1
    · exact h1
  · obtain ⟨i, k, h1, h2, h3⟩ := hlive j k' e
    obtain ⟨l, a1, a2, a3⟩ := hS.live i k h2
    refine ⟨l, hR j i l (.inl h1) a1, ?_, h3.ok hrep a3⟩
    show stillH E (only F S.g) w l.b = none
    cases e2 : stillH E (only F S.g) w l.b with
    | none => rfl
    | some cs =>
      exfalso
      rcases stillH_inv e2 with h4 | ⟨_, _, i2, k2, l2, b1, b2, b3⟩
      · rw [a2] at h4; cases h4
      · by_cases hii : i2 = i
        · subst hii
          rw [only_g] at b1
          split at b1
          · rename_i hf; exact (ho.a _ h1).2.2 hf
          · cases b1
        · exact hS.dis i2 i k2 k l2 l (hg _ _ b1) h2 hii b2 a1 b3
  · obtain ⟨i1, b1, p1, p2, _⟩ := hlive j1 k1 e1
    obtain ⟨i2, b2, q1, q2, _⟩ := hlive j2 k2 e2
    obtain ⟨m1, a1, _⟩ := hS.live i1 b1 p2
    obtain ⟨m2, a2, _⟩ := hS.live i2 b2 q2
    have c1 := hR j1 i1 m1 (.inl p1) a1
    have c2 := hR j2 i2 m2 (.inl q1) a2
    rw [c1] at r1; cases r1
    rw [c2] at r2; cases r2
    exact hS.dis i1 i2 b1 b2 _ _ p2 q2 (o_inj ho.u p1 q1 hne) a1 a2
  · have hj : N ≤ j := hj
    show ρ' j = none
    simp only [ρ']
    rw [if_neg (by omega)]
    cases e : o.lookup j with
    | none => rfl
    | some i => have := (ho.a _ (mem_lookup e)).1; simp only at this; omega
  · rcases afOf_mem (l := A) (t := t) with h | h
    · rw [h]; exact .junk _
    · exact hrep (hA _ h) (hF.at_ t)
  · obtain ⟨i, k, h1, h2, h3⟩ := hlive j k' e
    have hl : E2.ρ j = some l := hl
    obtain ⟨l0, a1, _⟩ := hS.live i k h2
    have := hR j i l0 (.inl h1) a1
    rw [this] at hl; cases hl
    exact .inr ⟨i, _, k, h2, a1, rfl⟩
  · show ρ' id = some l
    simp only [ρ']; rw [if_pos hi]; exact e
  · rcases stillH_inv e with h1 | ⟨_, _, i2, k2, l2, b1, b2, b3⟩
    · exact .inl h1
    · exact .inr (.inr ⟨i2, l2, k2, hg _ _ b1, b2, b3⟩)
  · show ρ' id = none
    simp only [ρ']; rw [if_pos hi]; exact e
end Go.Rf


/- Own work: the rules for functions whose state is brought to a chosen form. -/
set_option linter.unusedVariables false
set_option linter.unusedSimpArgs false
namespace Go.Rf
open Go.RowKit

def condRb (P : Program) (b : Nat) (x y : AC) (Q : Exit → AF → St → Prop) (a : AF) (S : St) (c : AV) : Prop :=
  match c with
  | .v (.bool t) => if t = true then AWb P b x Q a S else AWb P b y Q a S
  | _ => False
section
variable {P : Program} {b : Nat} {Q : Exit → AF → St → Prop} {a : AF} {S : St} {os : List AOper}
theorem Z0r : AWb P b .skip Q a S = Q .normal a S := by simp only [AWb]
theorem AWb_seq (x y : AC) : AWb P b (.seq x y) Q a S = AWb P b x (AThen (AWb P b y Q) Q) a S := by simp only [AWb]
theorem Z0m : AWb P b (.reg none os) Q a S = RG P S.n os 0 (nK Q) a ⟨S.n + os.length, S.g⟩ := by simp only [AWb]; rw [Z0c]
theorem Z0n (fr : List (List Bool)) : AWb P b (.reg (some fr) os) Q a S = RD P S.n os fr 0 [] (nK Q) a ⟨S.n + os.length, S.g⟩ := by simp only [AWb]; rw [Z0d]
private theorem AWb_cond_ (c : Opd) (x y : AC) : AWb P b (.cond c x y) Q a S = condRb P b x y Q a S (c.ev a) := rfl
theorem Z0k (c : Opd) (x y : AC) : AWb P b (.cond c x y) Q a S = condRb P b x y Q a S (c.ev a) := by rw [AWb_cond_]
theorem Z31 (x y : AC) : condRb P b x y Q a S (.v (.bool true)) = AWb P b x Q a S := by simp [condRb]
theorem Z30 (x y : AC) : condRb P b x y Q a S (.v (.bool false)) = AWb P b y Q a S := by simp [condRb]
theorem Z0j (id : Nat) (x : AC) : AWb P b (.block id x) Q a S = AWb P b x (ABlock id Q) a S := by simp only [AWb]
theorem Z0l (id : Nat) : AWb P b (.exit id) Q a S = Q (.exit id) a S := by simp only [AWb]
theorem Z0p : AWb P b .ret Q a S = Q .ret a S := by simp only [AWb]
theorem Z0q (x : AC) : AWb P b (.scp x) Q a S = AWb P b x (AScope Q) a S := by simp only [AWb]
theorem Z0o (p : Option Opd) : AWb P b (.regX os p) Q a S = RGX P S.n p os 0 Q a ⟨S.n + os.length, S.g⟩ := by simp only [AWb]; rw [Z0e]
theorem Z21 (ts : List Nat) (R : AV → St → Prop) : RetN b ts R .ret a S = ∃ a' S', Abs b a S a' S' ∧ R (retAV ts a') S' := by simp only [RetN, RetK]
theorem Z20 (ts : List Nat) (R : AV → St → Prop) : RetN b ts R .normal a S = ∃ a' S', Abs b a S a' S' ∧ R (retAV ts a') S' := by simp only [RetN, RetK]
end
/-- A loop whose rounds are counted; before each the state is as told. -/
def FNextB {σ : Type} (b n : Nat) (I : Nat → σ → Prop) (A : Nat → σ → List (Nat × AV)) (N : Nat) (G : Nat → σ → List (Nat × Option Blk)) (k : Nat) : AF → St → Prop :=
  fun f S => k < n ∧ ∃ s, I (k + 1) s ∧ Abs b f S (afOf (A (k + 1) s)) ⟨N, gOf (G (k + 1) s)⟩
theorem AWb_for {P : Program} {b : Nat} {x : AC} {Q : Exit → AF → St → Prop} {f : AF} {S : St} {σ : Type} (n : Nat) (I : Nat → σ → Prop) (A : Nat → σ → List (Nat × AV)) (N : Nat) (G : Nat → σ → List (Nat × Option Blk)) (s0 : σ) (hI : I 0 s0)
    (h0 : Abs b f S (afOf (A 0 s0)) ⟨N, gOf (G 0 s0)⟩) (h : ∀ k s, k ≤ n → I k s → AWb P b x (AThen (FNextB b n I A N G k) Q) (afOf (A k s)) ⟨N, gOf (G k s)⟩) : AWb P b (.loop x) Q f S := by
  refine ⟨fun m f S => ∃ k s, k ≤ n ∧ m = n - k ∧ I k s ∧ f = afOf (A k s) ∧ S = ⟨N, gOf (G k s)⟩, ⟨n, _, _, h0, 0, s0, by omega, by omega, hI, rfl, rfl⟩, ?_⟩
  rintro m f S ⟨k, s, hk, rfl, hi, rfl, rfl⟩
  refine AWb_mono _ (fun e a S' hq => ?_) (h k s hk hi)
  cases e <;> simp only [AThen] at hq ⊢ <;> first | exact hq | skip
  obtain ⟨h1, s', h2, h3⟩ := hq
  exact ⟨n - (k + 1), _, _, by omega, h3, k + 1, s', by omega, rfl, h2, rfl, rfl⟩
/-- All are plain data; all are of one size; all are atoms. -/
def Cls (xs : List AV) : Prop := ∀ x ∈ xs, Closed x
def Cel (es : Nat) (xs : List AV) : Prop := ∀ z ∈ xs, z.cells.length = es
def Ato (xs : List AV) : Prop := ∀ z ∈ xs, z.cells = [z]
theorem Z1d : Cls [] ↔ True := by simp [Cls]
theorem Z1c (x : AV) (xs : List AV) : Cls (x :: xs) ↔ Closed x ∧ Cls xs := by simp [Cls]
theorem Z1b (xs ys : List AV) : Cls (xs ++ ys) ↔ Cls xs ∧ Cls ys := ⟨fun h => ⟨fun x hx => h x (by simp [hx]), fun x hx => h x (by simp [hx])⟩, fun h x hx => by rcases List.mem_append.mp hx with hx | hx; exact h.1 x hx; exact h.2 x hx⟩
theorem Cls_map {X : Type} {enc : X → AV} (h : ∀ x, Closed (enc x)) (l : List X) : Cls (l.map enc) := by intro y hy; obtain ⟨x, _, rfl⟩ := List.mem_map.mp hy; exact h x
theorem Z19 (l : List Int) : Cls (l.map encI) := Cls_map Z2r l
theorem Z18 (l : List Bool) : Cls (l.map encB) := Cls_map Z2o l
theorem Z1a (l : List (List Int)) : Cls (l.map encIs) := Cls_map Z2s l
theorem Z1e (n : Nat) (x : AV) : Cls (List.replicate n x) ↔ n = 0 ∨ Closed x := by
  constructor
  · intro h
    cases n with
    | zero => exact .inl rfl
    | succ n => exact .inr (h x (by simp))
  · rintro (rfl | h) y hy
    · simp at hy
    · rw [(List.mem_replicate.mp hy).2]; exact h
theorem Z11 : Ato [] ↔ True := by simp [Ato]
theorem Z10 (x : AV) (xs : List AV) : Ato (x :: xs) ↔ x.cells = [x] ∧ Ato xs := by simp [Ato]
theorem Z0z (xs ys : List AV) : Ato (xs ++ ys) ↔ Ato xs ∧ Ato ys := ⟨fun h => ⟨fun x hx => h x (by simp [hx]), fun x hx => h x (by simp [hx])⟩, fun h x hx => by rcases List.mem_append.mp hx with hx | hx; exact h.1 x hx; exact h.2 x hx⟩
theorem Ato_map {X : Type} {enc : X → AV} (h : ∀ x, (enc x).cells = [enc x]) (l : List X) : Ato (l.map enc) := by intro y hy; obtain ⟨x, _, rfl⟩ := List.mem_map.mp hy; exact h x
theorem Z0x (l : List Int) : Ato (l.map encI) := Ato_map (fun _ => rfl) l
theorem Z0w (l : List Bool) : Ato (l.map encB) := Ato_map (fun _ => rfl) l
theorem Z0y (l : List (List Int)) : Ato (l.map encIs) := Ato_map (fun _ => rfl) l
theorem Z17 (es : Nat) : Cel es [] ↔ True := by simp [Cel]
theorem Z16 (es : Nat) (x : AV) (xs : List AV) : Cel es (x :: xs) ↔ x.cells.length = es ∧ Cel es xs := by simp [Cel]
theorem Z15 (es : Nat) (xs ys : List AV) : Cel es (xs ++ ys) ↔ Cel es xs ∧ Cel es ys := ⟨fun h => ⟨fun x hx => h x (by simp [hx]), fun x hx => h x (by simp [hx])⟩, fun h x hx => by rcases List.mem_append.mp hx with hx | hx; exact h.1 x hx; exact h.2 x hx⟩
theorem Cel_map {es : Nat} {X : Type} {enc : X → AV} (h : ∀ x, (enc x).cells.length = es) (l : List X) : Cel es (l.map enc) := by intro y hy; obtain ⟨x, _, rfl⟩ := List.mem_map.mp hy; exact h x
theorem Z13 (l : List Int) : Cel 1 (l.map encI) := Cel_map (enc := encI) (fun _ => rfl) l
theorem Z12 (l : List Bool) : Cel 1 (l.map encB) := Cel_map (enc := encB) (fun _ => rfl) l
theorem Z14 (l : List (List Int)) : Cel 1 (l.map encIs) := Cel_map (enc := encIs) (fun _ => rfl) l
/-! ### what is told anew -/
section
variable {gF g : Nat → Option Blk} {R : Nat → Nat → Prop}
theorem RenL.nil : RenL gF R [] [] := ⟨rfl, fun i h => by simp at h⟩
theorem RenL.cons {x y : AV} {a b : List AV} (h : RenV gF R x y) (k : RenL gF R a b) : RenL gF R (x :: a) (y :: b) := by
  refine ⟨by simp [k.1], fun i h1 h2 => ?_⟩
  cases i with
  | zero => exact h
  | succ i => exact k.2 i (by simpa using h1) (by simpa using h2)
theorem RenV.cl {x : AV} (h : Closed x) : RenV gF R x x := .fz _ _ (.closed _ h)
theorem RenL.cl {xs : List AV} (h : Cls xs) : RenL gF R xs xs := ⟨rfl, fun i h1 _ => .cl (h _ (List.getElem_mem h1))⟩
theorem Z1p {x y : AV} {a b : List AV} : RenL gF R (x :: a) (y :: b) ↔ RenV gF R x y ∧ RenL gF R a b := by
  refine ⟨fun h => ⟨h.2 0 (by simp) (by simp), by simpa using h.1, fun i h1 h2 => h.2 (i + 1) (by simpa using h1) (by simpa using h2)⟩, fun h => .cons h.1 h.2⟩
theorem Z1q : RenL gF R [] [] ↔ True := ⟨fun _ => trivial, fun _ => .nil⟩
theorem Z1x (x y : Value) : RenV gF R (.v x) (.v y) ↔ x = y := by
  constructor
  · intro h
    cases h with
    | fz _ _ h => cases h; rfl
    | wk _ _ _ h => cases h; rfl
  · rintro rfl; exact .cl (.v _)
theorem Z1v (id j o o' l l' : Nat) : RenV gF R (.own id o l) (.own j o' l') ↔ R j id ∧ o = o' ∧ l = l' := by
  constructor
  · intro h
    cases h with
    | fz _ _ h => cases h with | closed _ h => cases h
    | wk _ _ h _ => cases h
    | own _ _ _ _ h => exact ⟨h, rfl, rfl⟩
  · rintro ⟨h, rfl, rfl⟩; exact .own _ _ _ _ h
theorem Z1w (id j o o' l l' : Nat) : RenV gF R (.ptr id o l) (.ptr j o' l') ↔ R j id ∧ o = o' ∧ l = l' := by
  constructor
  · intro h
    cases h with
    | fz _ _ h => cases h with | closed _ h => cases h
    | wk _ _ h _ => cases h
    | ptr _ _ _ _ h => exact ⟨h, rfl, rfl⟩
  · rintro ⟨h, rfl, rfl⟩; exact .ptr _ _ _ _ h
theorem Z1u (id j : Nat) : RenV gF R (.mp id) (.mp j) ↔ R j id := by
  constructor
  · intro h
    cases h with
    | fz _ _ h => cases h with | closed _ h => cases h
    | wk _ _ h _ => cases h
    | mp _ _ h => exact h
  · intro h; exact .mp _ _ h
theorem Z1t (cs ds : List AV) : RenV gF R (.agg cs) (.agg ds) ↔ RenL gF R cs ds := by
  constructor
  · intro h
    cases h with
    | fz _ _ h => exact ⟨h.cells.1, fun i h1 h2 => .fz _ _ (h.cells.2.2 i h1 h2)⟩
    | wk _ _ hc h => exact ⟨h.f.len, fun i h1 h2 => .wk _ _ (hc.cells _ (List.getElem_mem _)) (h.cells i h1 h2)⟩
    | agg _ _ hl h => exact ⟨hl, h⟩
  · intro h; exact .agg _ _ h.1 h.2
theorem Z1s (k : Option Blk) : RenO gF R k none ↔ True := ⟨fun _ => trivial, fun _ _ h => by cases h⟩
theorem Z1r (es es' : Nat) (xs ys : List AV) : RenO gF R (some (.arr es xs)) (some (.arr es' ys)) ↔ es = es' ∧ RenL gF R xs ys := by
  constructor
  · intro h
    obtain ⟨b, h1, h2⟩ := h _ rfl
    cases h1
    cases h2 with
    | arr _ _ _ h => exact ⟨rfl, h⟩
  · rintro ⟨rfl, h⟩ b hb
    cases hb
    exact ⟨_, rfl, .arr _ _ _ h⟩
theorem RenV.loose {t : Bool} {xs : List AV} (h : ∀ x ∈ xs, Closed x) : RenV gF R (.sl t xs) (.sl false xs) := .fz _ _ (.loose t xs (.sl _ _ h))
/-- A block of closed values is frozen. -/
theorem RenV.frz {F : List Nat} {id es len : Nat} {xs : List AV} (hF : id ∈ F) (hg : g id = some (.arr es xs)) (hl : len = xs.length) (hc : Cls xs) : RenV (only F g) R (.own id 0 len) (.sl false xs) := by
  refine .fz _ _ (.own id 0 len es xs xs (by rw [only_g, if_pos hF]; exact hg) (by omega) hl.symm (fun i h1 h2 => ?_))
  simp only [List.drop_zero, hl, List.take_length]
  exact .closed _ (hc _ (List.getElem_mem _))
end
theorem Z44 (o : List (Nat × Nat)) (b j i : Nat) : relO o b j i ↔ ((j, i) ∈ o ∨ (j = i ∧ i < b)) := Iff.rfl
theorem Z2x (x : Value) : Closed (.v x) := .v x
theorem Z2w (t : Bool) : Closed (.sl t []) := .sl _ _ (by simp)
theorem Z2v (l : List Int) : Closed (.sl false (l.map encI)) := Z2s l
theorem Z2u (l : List (List Int)) : Closed (.sl false (l.map encIs)) := Z2t l
theorem Z2q (l : List Bool) : Closed (.sl false (l.map encB)) := Z2p l
/-! ### lists of one's own that grow -/
/-- In a block of one's own, or not yet. -/
def vV (o : Bool) (id : Nat) (xs : List AV) : AV := if o = true then .own id 0 xs.length else .sl true xs
def vB (o : Bool) (es : Nat) (xs : List AV) : Option Blk := if o = true then some (.arr es xs) else none
theorem vV_t (id : Nat) (xs : List AV) : vV true id xs = .own id 0 xs.length := by simp [vV]
theorem vV_f (id : Nat) (xs : List AV) : vV false id xs = .sl true xs := by simp [vV]
theorem vB_t (es : Nat) (xs : List AV) : vB true es xs = some (.arr es xs) := by simp [vB]
theorem vB_f (es : Nat) (xs : List AV) : vB false es xs = none := by simp [vB]
theorem app_own1 {S : St} {id es by_ len nid : Nat} {xs : List AV} {x : AV} (hg : S.g id = some (.arr es xs)) (hl : xs.length = len) (hx : x.cells.length = es) (hok : appOk by_ len 1) :
    (exApp es by_ (.own id 0 len) (.sl true [x])).run S nid = some (.own nid 0 (len + 1), (S.set id none).set nid (some (.arr es (xs ++ [x])))) := by
  simp [exApp, Eff.run, AV.oid, lstE, hx, hok, St.setL, St.setO, hg, hl]
theorem app_tight {S : St} {es by_ nid : Nat} {xs : List AV} {x : AV} (hes : Cel es xs) (hx : x.cells.length = es) (hok : appOk by_ xs.length 1) :
    (exApp es by_ (.sl true xs) (.sl true [x])).run S nid = some (.own nid 0 (xs.length + 1), S.set nid (some (.arr es (xs ++ [x])))) := by
  simp only [exApp, Eff.run, AV.oid, lstE, List.mapM_nil, Option.pure_def, List.mem_singleton, forall_eq, hx, if_true, Option.bind_some, List.length_cons, List.length_nil, Nat.zero_add]
  rw [if_pos ⟨hes, hok⟩]
  simp [St.setL, St.setO]
theorem vApp {S : St} {o : Bool} {id es by_ nid : Nat} {xs : List AV} {x : AV} (hg : S.g id = vB o es xs) (hes : Cel es xs) (hx : x.cells.length = es) (hok : appOk by_ xs.length 1) :
    (exApp es by_ (vV o id xs) (.sl true [x])).run S nid = some (.own nid 0 (xs.length + 1), (S.set id none).set nid (some (.arr es (xs ++ [x])))) := by
  cases o with
  | true => rw [vV_t]; rw [vB_t] at hg; exact app_own1 hg rfl hx hok
  | false =>
    rw [vV_f, app_tight hes hx hok]
    rw [vB_f] at hg
    have : S.set id none = S := by
      cases S with
      | mk n g =>
        simp only [St.set, St.mk.injEq, true_and]
        funext j
        simp only [updF]
        split
        · rename_i h; subst h; exact hg.symm
        · rfl
    rw [this]
theorem Z39 (t : Bool) (xs : List AV) : exLen (.sl t xs) = some (.v (.int .i64 xs.length)) := by simp only [exLen]
theorem Z38 (id off len : Nat) : exLen (.own id off len) = some (.v (.int .i64 len)) := by simp only [exLen]
theorem Z34 (es : Nat) (t : Bool) (xs : List AV) (k : IntKind) (n : Int) : exIdxA es (.sl t xs) (.v (.int k n)) = .val ((xs[n.toNat]?).bind fun y => if 0 ≤ n ∧ y.cells.length = es then some (.eptr y 0) else none) := by simp only [exIdxA]
theorem Z33 (es id off len : Nat) (k : IntKind) (n : Int) : exIdxA es (.own id off len) (.v (.int k n)) = .rd id fun
    | .arr es' xs => if es' = es ∧ 0 ≤ n ∧ n < len ∧ off + len ≤ xs.length then some (.ptr id (off + n.toNat) 0) else none
    | _ => none := by simp only [exIdxA]; rfl
theorem Z3b (k : Option Nat) (x : AV) (c : Nat) : exLoad k (.eptr x c) = .val (subc k x c) := by simp only [exLoad]
theorem Z3c (k : Option Nat) (id ix c : Nat) : exLoad k (.ptr id ix c) = .rd id fun | .arr _ xs => (xs[ix]?).bind fun x => subc k x c | _ => none := by simp only [exLoad]; rfl
theorem Z3a (o : Bool) (id : Nat) (xs : List AV) : exLen (vV o id xs) = some (.v (.int .i64 xs.length)) := by cases o <;> simp [vV, exLen]
/-- The place of an element. -/
def vP (o : Bool) (id i : Nat) (xs : List AV) : AV := if o = true then .ptr id i 0 else .eptr (xs[i]?.getD .junk) 0
theorem vIdx {S : St} {o : Bool} {id es nid : Nat} {xs : List AV} {k : IntKind} {n : Int} (hg : S.g id = vB o es xs) (hn : 0 ≤ n) (hlt : n < xs.length) (hes : Cel es xs) :
    (exIdxA es (vV o id xs) (.v (.int k n))).run S nid = some (vP o id n.toNat xs, S) := by
  have hl : n.toNat < xs.length := by omega
  have hx : xs[n.toNat]? = some xs[n.toNat] := List.getElem?_eq_getElem hl
  cases o with
  | true => rw [vB_t] at hg; simp [vV, vP, exIdxA, hg, hn, hlt]
  | false => simp [vV, vP, exIdxA, hx, hn, hes _ (List.getElem_mem hl)]
theorem Z4x {S : St} {o : Bool} {id i nid : Nat} {xs : List AV} (hg : S.g id = vB o 1 xs) (hx : i < xs.length) (hc : Ato xs) : (exLoad none (vP o id i xs)).run S nid = some (xs[i]?.getD .junk, S) := by
  have hx' : xs[i]? = some xs[i] := List.getElem?_eq_getElem hx
  have hc' := hc _ (List.getElem_mem hx)
  cases o with
  | true => rw [vB_t] at hg; simp [vP, exLoad, hg, hx', subc, hc']
  | false => simp [vP, exLoad, subc, hc', hx']
def vF (o : Bool) (l : List Nat) : List Nat := if o = true then l else []
theorem Z3u (o : Bool) (l : List Nat) (j : Nat) : j ∈ vF o l ↔ o = true ∧ j ∈ l := by cases o <;> simp [vF]
theorem Z4w {S : St} {o : Bool} {id es nid : Nat} {xs : List AV} {k : IntKind} {n : Int} (hg : S.g id = vB o es xs) (hn : 0 ≤ n) (hlt : n < xs.length) (hes : Cel es xs) :
    (exIdxA es (vV o id xs) (.v (.int k n))).runT S nid = some (vP o id n.toNat xs, S, vF o [id], []) := by
  have hl : n.toNat < xs.length := by omega
  have hx : xs[n.toNat]? = some xs[n.toNat] := List.getElem?_eq_getElem hl
  cases o with
  | true => rw [vB_t] at hg; simp [vV, vP, exIdxA, hg, hn, hlt, Z4b, vF]
  | false => simp [vV, vP, exIdxA, hx, hn, hes _ (List.getElem_mem hl), Z4c, vF]
theorem Z4y {S : St} {o : Bool} {id i nid : Nat} {xs : List AV} (hg : S.g id = vB o 1 xs) (hx : i < xs.length) (hc : Ato xs) : (exLoad none (vP o id i xs)).runT S nid = some (xs[i]?.getD .junk, S, vF o [id], []) := by
  have hx' : xs[i]? = some xs[i] := List.getElem?_eq_getElem hx
  have hc' := hc _ (List.getElem_mem hx)
  cases o with
  | true => rw [vB_t] at hg; simp [vP, exLoad, hg, hx', subc, hc', Z4b, vF]
  | false => simp [vP, exLoad, subc, hc', hx', Z4c, vF]
theorem Z4u {S : St} {o : Bool} {id es by_ nid : Nat} {xs : List AV} {x : AV} (hg : S.g id = vB o es xs) (hes : Cel es xs) (hx : x.cells.length = es) (hok : appOk by_ xs.length 1) :
    (exApp es by_ (vV o id xs) (.sl true [x])).runT S nid = some (.own nid 0 (xs.length + 1), (S.set id none).set nid (some (.arr es (xs ++ [x]))), vF o [id], vF o [id] ++ [nid]) := by
  cases o with
  | true =>
    rw [vB_t] at hg
    simp [vV, exApp, Eff.runT, AV.oid, lstE, hx, hok, St.setL, St.setO, hg, vF]
  | false =>
    rw [vB_f] at hg
    have : S.set id none = S := by
      cases S with
      | mk n g =>
        simp only [St.set, St.mk.injEq, true_and]
        funext j
        simp only [updF]
        split
        · rename_i h; subst h; exact hg.symm
        · rfl
    rw [this, vV_f]
    simp only [exApp, Eff.runT, AV.oid, lstE, List.mapM_nil, Option.pure_def, List.mem_singleton, forall_eq, hx, if_true, Option.bind_some, List.length_cons, List.length_nil, Nat.zero_add]
    rw [if_pos ⟨hes, hok⟩]
    simp [St.setL, St.setO, vF]
section
variable {gF g : Nat → Option Blk} {R : Nat → Nat → Prop}
theorem Z52 {o : Bool} {id j : Nat} {xs : List AV} (h : R j id) (hc : Cls xs) : RenV gF R (vV o id xs) (vV o j xs) := by
  cases o with
  | true => rw [vV_t, vV_t]; exact .own _ _ _ _ h
  | false => rw [vV_f, vV_f]; exact .cl (.sl _ _ hc)
theorem Z4v {o : Bool} {es : Nat} {xs : List AV} (hc : Cls xs) : RenO gF R (vB o es xs) (vB o es xs) := by
  cases o with
  | true => rw [vB_t, Z1r]; exact ⟨rfl, .cl hc⟩
  | false => rw [vB_f, Z1s]; trivial
theorem Z3y {F : List Nat} {id len : Nat} {xs : List AV} (hF : id ∈ F) (hg : g id = some (.arr 1 xs)) (hl : len = xs.length) (hc : Cls xs) : RenV (only F g) R (.own id 0 len) (.sl false xs) := .frz hF hg hl hc
theorem Z4z {F : List Nat} {o : Bool} {id : Nat} {xs : List AV} (hF : id ∈ F) (hg : g id = vB o 1 xs) (hc : Cls xs) : RenV (only F g) R (vV o id xs) (.sl false xs) := by
  cases o with
  | true => rw [vV_t]; rw [vB_t] at hg; exact .frz hF hg rfl hc
  | false => rw [vV_f]; exact .loose hc
theorem Z51 {F : List Nat} {o : Bool} {id : Nat} {l : List Int} (hF : id ∈ F) (hg : g id = vB o 1 (l.map encI)) : RenV (only F g) R (vV o id (l.map encI)) (encIs l) := Z4z hF hg (Z19 l)
theorem Z50 {F : List Nat} {o : Bool} {id : Nat} {l : List Bool} (hF : id ∈ F) (hg : g id = vB o 1 (l.map encB)) : RenV (only F g) R (vV o id (l.map encB)) (encBs l) := Z4z hF hg (Z18 l)
theorem Z3z {F : List Nat} {id len : Nat} {l : List Int} (hF : id ∈ F) (hg : g id = some (.arr 1 (l.map encI))) (hl : len = l.length) : RenV (only F g) R (.own id 0 len) (encIs l) := .frz hF hg (by simpa using hl) (Z19 l)
theorem vV_fz {o : Bool} {id : Nat} {xs : List AV} (hg : g id = vB o 1 xs) (hc : Cls xs) : Fz g (vV o id xs) (.sl false xs) := by
  cases o with
  | true =>
    rw [vV_t]; rw [vB_t] at hg
    refine .own id 0 xs.length 1 xs xs hg (by omega) rfl (fun i h1 h2 => ?_)
    simp only [List.drop_zero, List.take_length]
    exact .closed _ (hc _ (List.getElem_mem _))
  | false => rw [vV_f]; exact .loose true xs (.sl _ _ hc)
theorem RenL_snoc {a b : List AV} {x y : AV} : RenL gF R (a ++ [x]) (b ++ [y]) ↔ RenL gF R a b ∧ RenV gF R x y := by
  constructor
  · intro h
    have hl : b.length = a.length := by have := h.1; simpa using this
    refine ⟨⟨hl, fun i h1 h2 => ?_⟩, ?_⟩
    · have := h.2 i (by simp; omega) (by simp; omega)
      rwa [List.getElem_append_left h1, List.getElem_append_left h2] at this
    · have := h.2 a.length (by simp) (by simp [hl])
      rw [List.getElem_append_right (Nat.le_refl _), List.getElem_append_right (by omega)] at this
      simpa [hl] using this
  · rintro ⟨h1, h2⟩
    refine ⟨by simp [h1.1], fun i k1 k2 => ?_⟩
    have hl := h1.1
    by_cases hi : i < a.length
    · rw [List.getElem_append_left hi, List.getElem_append_left (by omega)]
      exact h1.2 i hi (by omega)
    · have : i = a.length := by simp at k1; omega
      subst this
      rw [List.getElem_append_right (Nat.le_refl _), List.getElem_append_right (by omega)]
      simpa [hl] using h2
end
theorem Z2c (l : List Int) : (encIs l).cells = [encIs l] := rfl
theorem Z2d (l : List (List Int)) : (encIss l).cells = [encIss l] := rfl
theorem Z2a (l : List Bool) : (encBs l).cells = [encBs l] := rfl
theorem Z2n (o : Bool) (id : Nat) (xs : List AV) : (vV o id xs).cells = [vV o id xs] := by cases o <;> simp [vV, AV.cells]
theorem Z4s (x : Value) : (AV.v x).solid = true := by simp only [AV.solid]
theorem Z4r (t : Bool) (xs : List AV) : (AV.sl t xs).solid = true := by simp only [AV.solid]
theorem Z4p (a b c : Nat) : (AV.own a b c).solid = true := by simp only [AV.solid]
theorem Z4q (a b c : Nat) : (AV.ptr a b c).solid = true := by simp only [AV.solid]
theorem Z4n (x : AV) (c : Nat) : (AV.eptr x c).solid = true := by simp only [AV.solid]
theorem Z4l (xs : List AV) : (AV.agg xs).solid = true := by simp only [AV.solid]
theorem Z4m (f : FuncId) (a b : List AV) : (AV.clo f a b).solid = true := by simp only [AV.solid]
theorem Z4o (i : Nat) : (AV.mp i).solid = true := by simp only [AV.solid]
theorem Z4i (l : List Int) : (encIs l).solid = true := rfl
theorem Z4j (l : List (List Int)) : (encIss l).solid = true := rfl
theorem Z4g (l : List Bool) : (encBs l).solid = true := rfl
theorem Z4t (o : Bool) (id : Nat) (xs : List AV) : (vV o id xs).solid = true := by cases o <;> simp [vV, AV.solid]
end Go.Rf

