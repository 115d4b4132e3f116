import Derived.Test.YtidkjfaeolfcaaaGreatRfPan
import Derived.Scope
set_option linter.unusedVariables false
set_option linter.unusedSimpArgs false
namespace Go.Rf
open Go.RowKit

/-! ### code -/
inductive AC where
  | skip
  | reg (draw : Option (List (List Bool))) (os : List AOper)
  /-- a region that draws its order, gone through in the text's, with calls that write -/
  | regS (l : List SOp)
  | seq (x y : AC)
  | cond (c : Opd) (x y : AC)
  | block (id : Nat) (x : AC)
  | loop (x : AC)
  | exit (id : Nat)
  | ret
  | scp (x : AC)
  /-- a region in the text's order that may panic; the panic that it ends with -/
  | regX (os : List AOper) (p : Option Opd)
  /-- not covered: nothing is said of it -/
  | bad
def trimF : List Bool → List Bool
  | [] => []
  | b :: bs => match b, trimF bs with
    | false, [] => []
    | b, bs => b :: bs
def trimL : List (List Bool) → List (List Bool)
  | [] => []
  | b :: bs => match b, trimL bs with
    | [], [] => []
    | b, bs => b :: bs
def frGo : List Oper → List AOper → List (Nat × AOper) → List Nat → Nat → List (List Bool)
  | o :: ops, s :: os, prev, ms, i => trimF (prev.map fun p => !(quietB p.2 && quietB s) && !(maskOf ms o).testBit p.1) :: frGo ops os ((i, s) :: prev) (ms ++ [maskOf ms o]) (i + 1)
  | _, _, _, _, _ => []
/-- Which pairs are to be told apart when they are come to. -/
def mkFr (ops : Array Oper) (os : List AOper) : List (List Bool) := trimL (frGo ops.toList os [] [] 0)
def cReg (draw : Bool) (ops : Array Oper) (os : List AOper) : Option (Option (List (List Bool)) × List AOper) :=
  if draw = true then (if drawOk ops os (mkFr ops os) = true then some (some (mkFr ops os), os) else none) else some (none, os)
def regOr : Option (Option (List (List Bool)) × List AOper) → AC
  | some p => .reg p.1 p.2
  | none => .bad
/-- A region's form, by R. -/
def compG (R : Program → Nat → Bool → Array Oper → AC) (P : Program) (n : Nat) : Code → Option AC
  | .skip => some .skip
  | .region _ ops draw => some (R P n draw ops)
  | .seq x y => (compG R P n x).bind fun X => (compG R P n y).map fun Y => .seq X Y
  | .cond c x y => (ofOperand c).bind fun C => (compG R P n x).bind fun X => (compG R P n y).map fun Y => .cond C X Y
  | .block id x => (compG R P n x).map (.block id)
  | .loop x => (compG R P n x).map .loop
  | .exit id => some (.exit id)
  | .ret => some .ret
  | .label _ => some .skip
  | .scope x => (compG R P n x).map .scp
  | _ => some .bad
def regC (P : Program) (n : Nat) (draw : Bool) (ops : Array Oper) : AC := regOr ((ops.toList.mapM (cOper P n ops)).bind (cReg draw ops))
def comp (P : Program) (n : Nat) (c : Code) : Option AC := compG regC P n c
/-- The same, with the drawn regions gone through in the text's order where that is known to be all one. -/
def regD (P : Program) (n : Nat) (draw : Bool) (ops : Array Oper) : AC :=
  if draw = true then (match ops.toList.mapM (cOper P n ops) with
    | some os => if seqOk ops (annGo ops.toList os [] [] 0) = true then .regS (annGo ops.toList os [] [] 0) else regC P n draw ops
    | none => regC P n draw ops) else regC P n draw ops
def compS (P : Program) (n : Nat) (c : Code) : Option AC := compG regD P n c
/-- The same, with the undrawn regions that call or panic as ones that may panic. -/
def regXl (P : Program) (n : Nat) (ops : Array Oper) : List Oper → AC
  | [] => .bad
  | o :: rest => match o.op, o.guard with
    | .panic x, none => match ofOperand x, rest.reverse.mapM (cOper P n ops) with
      | some X, some os => .regX os (some X)
      | _, _ => .bad
    | _, _ => .bad
def regX (P : Program) (n : Nat) (draw : Bool) (ops : Array Oper) : AC :=
  if draw = true then regD P n draw ops else
    match ops.toList.mapM (cOper P n ops) with
    | some os => if os.any (fun o => o.call.isSome) = true then .regX os none else .reg none os
    | none => regXl P n ops ops.toList.reverse
def AThen (K : AF → St → Prop) (Q : Exit → AF → St → Prop) : Exit → AF → St → Prop
  | .normal, a, S => K a S
  | e, a, S => Q e a S
def ABlock (id : Nat) (Q : Exit → AF → St → Prop) : Exit → AF → St → Prop
  | .exit id', a, S => if id' = id then Q .normal a S else Q (.exit id') a S
  | e, a, S => Q e a S
def AScope (Q : Exit → AF → St → Prop) : Exit → AF → St → Prop
  | .goto _, _, _ => False
  | e, a, S => Q e a S
def AW (P : Program) : AC → (Exit → AF → St → Prop) → AF → St → Prop
  | .skip, Q, a, S => Q .normal a S
  | .reg none os, Q, a, S => RG P S.n os 0 (fun a S => Q .normal a S) a ⟨S.n + os.length, S.g⟩
  | .reg (some fr) os, Q, a, S => RD P S.n os fr 0 [] (fun a S => Q .normal a S) a ⟨S.n + os.length, S.g⟩
  | .regS l, Q, a, S => RSp P S.n l [] (fun a S => Q .normal a S) a ⟨S.n + l.length, S.g⟩
  | .regX os p, Q, a, S => RGX P S.n p os 0 Q a ⟨S.n + os.length, S.g⟩
  | .seq x y, Q, a, S => AW P x (AThen (AW P y Q) Q) a S
  | .cond c x y, Q, a, S => match c.ev a with
    | .v (.bool b) => if b = true then AW P x Q a S else AW P y Q a S
    | _ => False
  | .block id x, Q, a, S => AW P x (ABlock id Q) a S
  | .loop x, Q, a, S => ∃ I : Nat → AF → St → Prop, (∃ m, I m a S) ∧ ∀ m a S, I m a S → AW P x (AThen (fun a' S' => ∃ m', m' < m ∧ I m' a' S') Q) a S
  | .exit id, Q, a, S => Q (.exit id) a S
  | .ret, Q, a, S => Q .ret a S
  | .scp x, Q, a, S => AW P x (AScope Q) a S
  | .bad, _, _, _ => False
theorem mapM_get {α β : Type} {f : α → Option β} : ∀ {l : List α} {ys : List β}, l.mapM f = some ys → ys.length = l.length ∧ ∀ k (hk : k < ys.length), ∃ x, l[k]? = some x ∧ f x = some (ys[k])
  | [], ys, h => by simp at h; subst h; simp
  | x :: l, ys, h => by
    simp only [List.mapM_cons, Option.bind_eq_bind, Option.bind_eq_some_iff, Option.pure_def, Option.some.injEq] at h
    obtain ⟨y, hy, zs, hz, rfl⟩ := h
    obtain ⟨h1, h2⟩ := mapM_get hz
    refine ⟨by simp [h1], fun k hk => ?_⟩
    cases k with
    | zero => exact ⟨x, rfl, hy⟩
    | succ k => simpa using h2 k (by simpa using hk)
theorem Post.mono {E0 : Env} {S0 : St} {w0 : World} {n : Nat} {Q Q' : Exit → AF → St → Prop} (hq : ∀ e a S, Q e a S → Q' e a S) {e : Exit} {act : Act} {w : World} (k : Post E0 S0 w0 n Q e act w) : Post E0 S0 w0 n Q' e act w :=
  let ⟨a, S, E, h1, h2⟩ := k; ⟨a, S, E, hq _ _ _ h1, h2⟩
/-- A region's form says what the region does. -/
def RegOk (P : Program) (n : Nat) (R : Program → Nat → Bool → Array Oper → AC) : Prop :=
  ∀ (id : Nat) (ops : Array Oper) (draw : Bool) (Q : Exit → AF → St → Prop) (a : AF) (S : St), AW P (R P n draw ops) Q a S → AWp P n (.region id ops draw) Q a S
theorem regC_ok {P : Program} (hm : P.follows .mixedOrders = true) {n : Nat} : RegOk P n regC := by
  intro id ops dr Q a S h E w act hG hS hF
  unfold regC at h
  cases hq : (ops.toList.mapM (cOper P n ops)).bind (cReg dr ops) with
  | none => rw [hq] at h; simp only [regOr, AW] at h
  | some p =>
    rw [hq] at h
    simp only [regOr] at h
    simp only [Option.bind_eq_some_iff] at hq
    obtain ⟨ys, hy, hc⟩ := hq
    obtain ⟨h1, h2⟩ := mapM_get hy
    have hlen : ys.length = ops.size := by rw [h1]; simp
    obtain ⟨draw, os⟩ := p
    unfold cReg at hc
    split at hc
    · rename_i hdr
      subst hdr
      split at hc
      · rename_i hok
        simp only [Option.some.injEq, Prod.mk.injEq] at hc
        obtain ⟨rfl, rfl⟩ := hc
        simp only [AW] at h
        exact draw_sound hm hy hok ⟨hlen, fun k hk => by obtain ⟨o, a1, a2⟩ := h2 k hk; exact ⟨o, by simpa using a1, a2⟩⟩ h hG hS hF
      · cases hc
    · rename_i hdr
      simp only [Bool.not_eq_true] at hdr
      subst hdr
      simp only [Option.some.injEq, Prod.mk.injEq] at hc
      obtain ⟨rfl, rfl⟩ := hc
      simp only [AW] at h
      refine wp_region ?_
      have := rg_sound (P := P) (n := n) (ops := ops) (base := S.n) (E0 := E) (S0 := S) (w0 := w) hG (Nat.le_refl _) ys 0 a ⟨S.n + ys.length, S.g⟩ (fun k hk => by
        obtain ⟨o, a1, a2⟩ := h2 k hk
        exact ⟨o, by rw [Nat.zero_add]; simpa using a1, a2⟩) h E w act (hS.drop S.g (fun _ _ e => e) _ (by show S.n ≤ S.n + _; omega)) hF (fun k _ hk => ⟨hS.fresh _ (by omega), by show S.n + k < S.n + ys.length; omega⟩)
        ⟨⟨rfl, rfl, rfl, Nat.le_refl _, fun _ _ _ => rfl, fun id l k hk hl => .inr ⟨id, l, k, hk, hl, rfl⟩, Env.le_refl _, fun _ _ e => .inl e⟩, by show S.n ≤ S.n + _; omega, fun _ _ e => e⟩
      rw [List.range_eq_range', ← hlen]; exact this
theorem annGo_mem {ops : Array Oper} {os0 : List AOper} {f : Oper → Option AOper} (hos : ∀ k (hk : k < os0.length), ∃ o, ops[k]? = some o ∧ f o = some os0[k]) : ∀ (l : List Oper) (os : List AOper) (prev : List SOp) (ms : List Nat) (i : Nat), os0.drop i = os → ∀ s ∈ annGo l os prev ms i, ∃ o, ops[s.1]? = some o ∧ f o = some s.2.1
  | [], os, prev, ms, i, _, s, hs => by simp [annGo] at hs
  | o :: l, [], prev, ms, i, _, s, hs => by simp [annGo] at hs
  | o :: l, x :: os, prev, ms, i, hd, s, hs => by
    have hi : i < os0.length := by
      have := congrArg List.length hd
      simp at this; omega
    rw [List.drop_eq_getElem_cons hi] at hd
    simp only [List.cons.injEq] at hd
    simp only [annGo, List.mem_cons] at hs
    rcases hs with rfl | hs
    · obtain ⟨o', h1, h2⟩ := hos i hi
      exact ⟨o', h1, by rw [h2, hd.1]⟩
    · exact annGo_mem hos l os _ _ (i + 1) hd.2 s hs
theorem regD_ok {P : Program} (hm : P.follows .mixedOrders = true) {n : Nat} : RegOk P n regD := by
  intro id ops dr Q a S h E w act hG hS hF
  unfold regD at h
  split at h
  · rename_i hdr
    split at h
    · rename_i os hos
      split at h
      · rename_i hok
        subst hdr
        obtain ⟨h1, h2⟩ := mapM_get hos
        simp only [AW] at h
        exact seq_sound hm hok (annGo_mem (fun k hk => by obtain ⟨o, a1, a2⟩ := h2 k hk; exact ⟨o, by simpa using a1, a2⟩) _ _ _ _ 0 (by simp)) h hG hS hF
      · exact regC_ok hm id ops dr Q a S h E w act hG hS hF
    · exact regC_ok hm id ops dr Q a S h E w act hG hS hF
  · exact regC_ok hm id ops dr Q a S h E w act hG hS hF
/-- What is known of a region that may panic. -/
structure XIs (P : Program) (n : Nat) (ops : Array Oper) (os : List AOper) (p : Option Opd) : Prop where
  hc : ∀ k (hk : k < os.length), ∃ o, ops[k]? = some o ∧ cOper P n ops o = some (os[k])
  ht : ∀ X, p = some X → ∃ o x, ops[os.length]? = some o ∧ o.op = .panic x ∧ ofOperand x = some X ∧ o.guard = none
  hs : ops.size = os.length + p.toList.length
theorem compG_region {R : Program → Nat → Bool → Array Oper → AC} {P : Program} {n id : Nat} {ops : Array Oper} {draw : Bool} {ac : AC} (h : compG R P n (.region id ops draw) = some ac) : ac = R P n draw ops := by
  simp only [compG, Option.some.injEq] at h; exact h.symm
theorem aw_soundG {P : Program} (hm : P.follows .mixedOrders = true) {n : Nat} {R : Program → Nat → Bool → Array Oper → AC} (hR : RegOk P n R) : ∀ (c : Code) (ac : AC), compG R P n c = some ac → ∀ (Q : Exit → AF → St → Prop) (a : AF) (S : St), AW P ac Q a S → AWp P n c Q a S := by
  intro c
  induction c with
  | skip =>
    intro ac hc Q a S h E w act hG hS hF
    simp only [compG, Option.some.injEq] at hc; subst hc
    exact wp_skip ⟨a, S, E, h, hS, hF, .refl _ _ _⟩
  | label l =>
    intro ac hc Q a S h E w act hG hS hF
    simp only [compG, Option.some.injEq] at hc; subst hc
    exact wp_label ⟨a, S, E, h, hS, hF, .refl _ _ _⟩
  | region id ops dr =>
    intro ac hc Q a S h
    rw [compG_region hc] at h
    exact hR id ops dr Q a S h
  | seq c1 c2 ihx ihy =>
    intro ac hc Q a S h E w act hG hS hF
    simp only [compG, Option.map_eq_some_iff, Option.bind_eq_some_iff] at hc
    obtain ⟨X, hX, Y, hY, rfl⟩ := hc
    simp only [AW] at h
    refine wp_seq (wp_mono (ihx X hX _ a S h E w act hG hS hF) fun e act' w' hp => ?_)
    obtain ⟨a', S', E', q, s, r, ev⟩ := hp
    cases e with
    | normal => exact wp_mono (ihy Y hY Q a' S' q E' w' act' (hG.le ev.evo.le) s r) fun e act2 w2 hp2 => hp2.trans ev
    | _ => exact ⟨a', S', E', q, s, r, ev⟩
  | cond c0 c1 c2 ihx ihy =>
    intro ac hc Q a S h E w act hG hS hF
    simp only [compG, Option.map_eq_some_iff, Option.bind_eq_some_iff] at hc
    obtain ⟨C', hC, X, hX, Y, hY, rfl⟩ := hc
    simp only [AW] at h
    split at h
    · rename_i b hb
      have r := ofOperand_ok hF hC
      rw [hb] at r
      refine wp_cond (t := b) r.v_inv ?_
      cases b with
      | true => exact ihx X hX Q a S (by simpa using h) E w act hG hS hF
      | false => exact ihy Y hY Q a S (by simpa using h) E w act hG hS hF
    · exact h.elim
  | block id' c1 ihx =>
    intro ac hc Q a S h E w act hG hS hF
    simp only [compG, Option.map_eq_some_iff] at hc
    obtain ⟨X, hX, rfl⟩ := hc
    simp only [AW] at h
    refine wp_block (wp_mono (ihx X hX _ a S h E w act hG hS hF) fun e act' w' hp => ?_)
    obtain ⟨a', S', E', q, s, r, ev⟩ := hp
    cases e with
    | exit j =>
      simp only [ABlock] at q
      simp only [Exit.inBlock]
      split at q
      · rename_i hj; rw [if_pos hj]; exact ⟨a', S', E', q, s, r, ev⟩
      · rename_i hj; rw [if_neg hj]; exact ⟨a', S', E', q, s, r, ev⟩
    | _ => exact ⟨a', S', E', q, s, r, ev⟩
  | loop c1 ihx =>
    intro ac hc Q a S h E w act hG hS hF
    simp only [compG, Option.map_eq_some_iff] at hc
    obtain ⟨X, hX, rfl⟩ := hc
    simp only [AW] at h
    obtain ⟨I, ⟨m0, hI0⟩, hround⟩ := h
    intro b k cs
    have key : ∀ m, ∀ a S E' w' act', Gam P E'.H → I m a S → Sim E' S w' → RepF E' n a act' → Ev E (⟨S.n, S.g⟩ : St) w' E' S w' ∨ True →
        ∃ e a' w2, Post E' S w' n Q e a' w2 ∧ Arrives P (lone (b.at act' (.code c1 :: .inLoop c1 :: k)) cs w') b k cs e a' w2 := by
      intro m
      induction m using Nat.strongRecOn with
      | _ m ih =>
        intro a S E' w' act' hG' hI hS' hF' _
        obtain ⟨e, act1, w1, hp, harr⟩ := ihx X hX _ a S (hround m a S hI) E' w' act' hG' hS' hF' b (.inLoop c1 :: k) cs
        obtain ⟨a1, S1, E1, q, s, r, ev⟩ := hp
        cases e with
        | normal =>
          obtain ⟨m', hlt, hI'⟩ := q
          obtain ⟨e2, act2, w2, hp2, harr2⟩ := ih m' hlt a1 S1 E1 w1 act1 (hG'.le ev.evo.le) hI' s r (.inr trivial)
          exact ⟨e2, act2, w2, hp2.trans ev, .of_steps (Steps.trans harr (.one step_inLoop)) harr2⟩
        | exit id => exact ⟨_, act1, w1, ⟨a1, S1, E1, q, s, r, ev⟩, .pass (x := .inLoop c1) rfl (fun _ _ => .inl (by simp)) harr⟩
        | goto l => exact ⟨_, act1, w1, ⟨a1, S1, E1, q, s, r, ev⟩, .pass (x := .inLoop c1) rfl (fun _ _ => .inl (by simp)) harr⟩
        | ret => exact ⟨_, act1, w1, ⟨a1, S1, E1, q, s, r, ev⟩, .pass (x := .inLoop c1) rfl (fun _ _ => .inl (by simp)) harr⟩
        | panic ch => exact ⟨_, act1, w1, ⟨a1, S1, E1, q, s, r, ev⟩, .pass (x := .inLoop c1) rfl (fun _ _ => .inl (by simp)) harr⟩
        | outgrown => exact ⟨_, act1, w1, ⟨a1, S1, E1, q, s, r, ev⟩, .pass (x := .inLoop c1) rfl (fun _ _ => .inl (by simp)) harr⟩
    obtain ⟨e, a', w', hp, harr⟩ := key m0 a S E w act hG hI0 hS hF (.inr trivial)
    exact ⟨e, a', w', hp, .of_steps (.one step_loop) harr⟩
  | exit id =>
    intro ac hc Q a S h E w act hG hS hF
    simp only [compG, Option.some.injEq] at hc; subst hc
    exact wp_exit ⟨a, S, E, h, hS, hF, .refl _ _ _⟩
  | ret =>
    intro ac hc Q a S h E w act hG hS hF
    simp only [compG, Option.some.injEq] at hc; subst hc
    exact wp_ret ⟨a, S, E, h, hS, hF, .refl _ _ _⟩
  | scope c1 ihx =>
    intro ac hc Q a S h E w act hG hS hF
    simp only [compG, Option.map_eq_some_iff] at hc
    obtain ⟨X, hX, rfl⟩ := hc
    simp only [AW] at h
    refine wp_scope_straight (wp_mono (ihx X hX _ a S h E w act hG hS hF) fun e act' w' hp => ?_)
    obtain ⟨a', S', E', q, s, r, ev⟩ := hp
    cases e with
    | goto l => exact q
    | _ => exact ⟨a', S', E', q, s, r, ev⟩
  | _ =>
    intro ac hc Q a S h
    simp only [compG, Option.some.injEq] at hc; subst hc
    simp only [AW] at h
theorem aw_sound {P : Program} (hm : P.follows .mixedOrders = true) {n : Nat} (ac : AC) (c : Code) (h : comp P n c = some ac) : ∀ (Q : Exit → AF → St → Prop) (a : AF) (S : St), AW P ac Q a S → AWp P n c Q a S := aw_soundG hm (regC_ok hm) c ac h
theorem RG_mono {P : Program} {base : Nat} : ∀ (os : List AOper) (i : Nat) {K K' : AF → St → Prop} {a : AF} {S : St}, (∀ a S, K a S → K' a S) → RG P base os i K a S → RG P base os i K' a S
  | [], i, K, K', a, S, hk, h => hk _ _ h
  | o :: os, i, K, K', a, S, hk, h => by
    simp only [RG] at h ⊢
    split at h
    · exact h.elim
    · rename_i hg; exact RG_mono os (i + 1) hk h
    · rename_i hg
      split at h
      · rename_i G xs hc
        split at h
        · rename_i f first cap hG
          exact h.mono fun r S' h' => RG_mono os (i + 1) hk h'
        · exact h.elim
      · rename_i hc
        split at h
        · rename_i v S' hr; exact RG_mono os (i + 1) hk h
        · exact nilG_mono (fun v hv => RG_mono os (i + 1) hk hv) h
theorem RD_mono {P : Program} {base : Nat} : ∀ (os : List AOper) (fr : List (List Bool)) (i : Nat) (T : List (List Nat × List Nat)) {K K' : AF → St → Prop} {a : AF} {S : St}, (∀ a S, K a S → K' a S) → RD P base os fr i T K a S → RD P base os fr i T K' a S
  | [], fr, i, T, K, K', a, S, hk, h => hk _ _ h
  | o :: os, fr, i, T, K, K', a, S, hk, h => by
    simp only [RD] at h ⊢
    split at h
    · exact h.elim
    · rename_i hg; exact RD_mono os _ (i + 1) _ hk h
    · rename_i hg
      split at h
      · rename_i G xs hc
        split at h
        · rename_i f first cap hG
          obtain ⟨r, F, h1, h2, h3⟩ := h
          exact ⟨r, F, h1, h2, RD_mono os _ (i + 1) _ hk h3⟩
        · exact h.elim
      · rename_i hc
        split at h
        · rename_i v S' F W hr; exact ⟨h.1, RD_mono os _ (i + 1) _ hk h.2⟩
        · exact h.elim
theorem AW_mono {P : Program} : ∀ (ac : AC) {Q Q' : Exit → AF → St → Prop} {a : AF} {S : St}, (∀ e a S, Q e a S → Q' e a S) → AW P ac Q a S → AW P ac Q' a S := by
  intro ac
  induction ac with
  | skip => intro Q Q' a S hq h; exact hq _ _ _ h
  | reg d os =>
    intro Q Q' a S hq h
    cases d with
    | none => exact RG_mono os 0 (fun a S h => hq _ _ _ h) h
    | some fr => exact RD_mono os fr 0 [] (fun a S h => hq _ _ _ h) h
  | regS l =>
    intro Q Q' a S hq h
    exact RSp_mono l (fun a S h => hq _ _ _ h) h
  | regX os p =>
    intro Q Q' a S hq h
    exact RGX_mono os 0 hq h
  | seq x y ihx ihy =>
    intro Q Q' a S hq h
    refine ihx (Q := AThen (AW P y Q) Q) (fun e a S h => ?_) h
    cases e with
    | normal => exact ihy hq h
    | _ => exact hq _ _ _ h
  | cond c x y ihx ihy =>
    intro Q Q' a S hq h
    simp only [AW] at h ⊢
    split at h
    · rename_i b hb
      split at h
      · rename_i hbt; rw [if_pos hbt]; exact ihx hq h
      · rename_i hbt; rw [if_neg hbt]; exact ihy hq h
    · exact h.elim
  | block id x ihx =>
    intro Q Q' a S hq h
    refine ihx (Q := ABlock id Q) (fun e a S h => ?_) h
    cases e with
    | exit j =>
      simp only [ABlock] at h ⊢
      split at h
      · rename_i hj; rw [if_pos hj]; exact hq _ _ _ h
      · rename_i hj; rw [if_neg hj]; exact hq _ _ _ h
    | _ => exact hq _ _ _ h
  | loop x ihx =>
    intro Q Q' a S hq h
    obtain ⟨I, h1, h2⟩ := h
    refine ⟨I, h1, fun m a S hi => ihx (fun e a S h => ?_) (h2 m a S hi)⟩
    cases e with
    | normal => exact h
    | _ => exact hq _ _ _ h
  | exit id => intro Q Q' a S hq h; exact hq _ _ _ h
  | ret => intro Q Q' a S hq h; exact hq _ _ _ h
  | scp x ihx =>
    intro Q Q' a S hq h
    refine ihx (Q := AScope Q) (fun e a S h => ?_) h
    cases e with
    | goto l => exact h
    | _ => exact hq _ _ _ h
  | bad => intro Q Q' a S hq h; exact h
theorem CallR.of_body {P : Program} (hm : P.follows .mixedOrders = true) {f : FuncId} {fn : Func} {c : Code} {ac : AC} {ts : List Nat} (hf : P.funcs[f]? = some fn) (hnm : (fn.name == "runtime.NumGoroutine") = false) (hb : fn.body = some c)
    (hc : comp P fn.ntmps c = some ac) (hr : fn.results = (ts.map ResultVar.tmp).toArray) {args : List AV} (hn : args.length ≤ fn.ntmps) {S : St} {K : AV → St → Prop} (h : AW P ac (RetK ts K) (argF args) S) : CallR P f args S K := by
  refine ⟨callable_of hf hnm hb, fun E w vals hG hS hv => ?_⟩
  refine calls_of_wp hf hb (wp_mono (aw_sound hm ac c hc _ _ _ h E w _ hG hS (repF_args hv hn)) fun e act w' hp => ?_)
  obtain ⟨a, S', E', q, s, r, ev⟩ := hp
  have hrr := run_results (P := P) hr act.tmps w'
  cases e <;> simp only [RetK] at q
  · exact ⟨r.defers, _, hrr, _, _, S', E', rfl, q, s, retAV_rep r ts, ev⟩
  · exact ⟨r.defers, _, hrr, _, _, S', E', rfl, q, s, retAV_rep r ts, ev⟩
/-- A function's contract, from its code. -/
theorem PureC.of_body {P : Program} (hm : P.follows .mixedOrders = true) {f : FuncId} {fn : Func} {c : Code} {ac : AC} {ts : List Nat} (hf : P.funcs[f]? = some fn) (hnm : (fn.name == "runtime.NumGoroutine") = false) (hb : fn.body = some c)
    (hc : comp P fn.ntmps c = some ac) (hr : fn.results = (ts.map ResultVar.tmp).toArray) {args : List AV} (hn : args.length ≤ fn.ntmps) {r : AV} (h : AW P ac (RetK ts fun r' S' => Fz S'.g r' r) (argF args) S0) : PureC P f args r :=
  .of_callR (.of_body hm hf hnm hb hc hr hn h)
end Go.Rf

