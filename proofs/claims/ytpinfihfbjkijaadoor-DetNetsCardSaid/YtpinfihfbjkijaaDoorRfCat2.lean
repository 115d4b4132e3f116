import Derived.Test.YtpinfihfbjkijaaDoorRfStl
import Derived.Recover
/- Own work: functions that defer, and closures that recover. -/
set_option linter.unusedVariables false
set_option linter.unusedSimpArgs false
namespace Go.Rf
open Go.RowKit

def addD (ds : List Deferred) (a : Act) : Act := { a with defers := a.defers ++ ds }
theorem addD_put (ds : List Deferred) (a : Act) (d : Option Tmp) (v : Value) : (addD ds a).put d v = addD ds (a.put d v) := by cases d <;> rfl
theorem addD_eval (ds : List Deferred) (a : Act) : (addD ds a).eval = a.eval := by
  funext x
  cases x <;> rfl
theorem upon_add {P : Program} {o : Oper} {ds : List Deferred} {a : Act} {next next' : Act → World → Prop} {Q Q' : Exit → Act → World → Prop} (hn : ∀ a w, next a w → next' (addD ds a) w) (hq : ∀ e a w, Q e a w → Q' e (addD ds a) w) :
    ∀ (r : Result Next), o.upon P a next Q r → o.upon P (addD ds a) next' Q' r := by
  intro r h
  unfold Oper.upon at h ⊢
  split at h
  · rw [addD_put]; exact hn _ _ h
  · rw [addD_put]; exact hn _ _ h
  · rename_i d w'
    have := hn _ _ h
    rw [← addD_put] at this
    exact this
  · refine h.mono fun e w' h2 => ?_
    cases e with
    | returned v => simp only at h2 ⊢; rw [addD_put]; exact hn _ _ h2
    | panicked ch => exact hq _ _ _ h2
    | outgrown => obtain ⟨a', w2, h3⟩ := h2; exact ⟨_, _, hq _ _ _ h3⟩
  · refine h.mono fun v w' h2 => ?_
    rw [addD_put]; exact hn _ _ h2
  · exact hq _ _ _ h
  · exact h.elim
theorem wpOps_add {P : Program} {ops : Array Oper} {ds : List Deferred} {Q Q' : Exit → Act → World → Prop} (hq : ∀ e a w, Q e a w → Q' e (addD ds a) w) : ∀ (l : List Nat) (a : Act) (w : World), wpOps P ops Q l a w → wpOps P ops Q' l (addD ds a) w
  | [], a, w, h => hq _ _ _ h
  | i :: l, a, w, h => by
    simp only [wpOps] at h ⊢
    split
    · rename_i ho
      rw [ho] at h
      exact wpOps_add hq l a w h
    · rename_i o ho
      rw [ho] at h
      simp only at h
      have ht : (addD ds a).tmps = a.tmps := rfl
      rw [ht]
      split at h
      · rename_i hw
        rw [if_pos hw]
        rcases h with h | ⟨h1, a', w', h2⟩
        · left
          unfold Oper.wp at h ⊢
          rw [addD_eval]
          exact upon_add (fun a w h => wpOps_add hq l a w h) hq _ h
        · right
          refine ⟨?_, _, _, hq _ _ _ h2⟩
          unfold Oper.asks at h1 ⊢
          rw [addD_eval]; exact h1
      · rename_i hw
        rw [if_neg hw, addD_put]
        exact wpOps_add hq l _ w h
theorem regX_wpOps {P : Program} (hm : P.follows .mixedOrders = true) {n : Nat} {ops : Array Oper} {Q : Exit → AF → St → Prop} {a : AF} {S : St} (h : AW P (regX P n false ops) Q a S) {E : Env} {w : World} {act : Act} (hG : Gam P E.H) (hS : Sim E S w) (hF : RepF E n a act) :
    wpOps P ops (Post E S w n Q) (List.range ops.size) act w := by
  unfold regX at h
  rw [if_neg (by simp)] at h
  split at h
  · rename_i os hos
    obtain ⟨h1, h2⟩ := mapM_get hos
    have hget : ∀ k (hk : k < os.length), ∃ o, ops[k]? = some o ∧ cOper P n ops o = some (os[k]) := fun k hk => by
      obtain ⟨o, a1, a2⟩ := h2 k hk; exact ⟨o, by simpa using a1, a2⟩
    split at h
    · simp only [AW] at h
      exact regX_ops (id := 0) (p := none) hget (fun _ e => by cases e) (by rw [h1]; simp) h hG hS hF
    · simp only [AW] at h
      exact regX_ops (id := 0) (p := none) hget (fun _ e => by cases e) (by rw [h1]; simp) (RGX_of_RG _ _ h) hG hS hF
  · cases hl : regXl P n ops ops.toList.reverse with
    | regX os p =>
      rw [hl] at h
      have x := regXl_inv hl
      simp only [AW] at h
      exact regX_ops (id := 0) x.hc x.ht x.hs h hG hS hF
    | bad => rw [hl] at h; simp only [AW] at h
    | _ =>
      exfalso
      cases hr : ops.toList.reverse with
      | nil => rw [hr] at hl; simp [regXl] at hl
      | cons o rest =>
        rw [hr] at hl
        simp only [regXl] at hl
        split at hl <;> (try split at hl) <;> cases hl
/-- Straight codes. -/
def strB : Code → Bool
  | .region _ _ d => !d
  | .seq a b => strB a && strB b
  | .ret | .skip => true
  | _ => false
theorem awX_add {P : Program} (hm : P.follows .mixedOrders = true) {n : Nat} (ds : List Deferred) : ∀ (c : Code) (ac : AC), compX P n c = some ac → strB c = true → ∀ (Q : Exit → AF → St → Prop) (a : AF) (S : St), AW P ac Q a S → ∀ E w act, Gam P E.H → Sim E S w → RepF E n a act →
    c.wp P (fun e act' w' => ∃ act0, act' = addD ds act0 ∧ Post E S w n Q e act0 w') (addD ds act) w := by
  intro c
  induction c with
  | skip =>
    intro ac hc hs Q a S h E w act hG hS hF
    simp only [compX, compG, Option.some.injEq] at hc; subst hc
    exact wp_skip ⟨act, rfl, a, S, E, h, hS, hF, .refl _ _ _⟩
  | ret =>
    intro ac hc hs Q a S h E w act hG hS hF
    simp only [compX, compG, Option.some.injEq] at hc; subst hc
    exact wp_ret ⟨act, rfl, a, S, E, h, hS, hF, .refl _ _ _⟩
  | region id ops dr =>
    intro ac hc hs Q a S h E w act hG hS hF
    have e := compG_region (R := regX) hc
    subst e
    simp only [strB, Bool.not_eq_true'] at hs
    subst hs
    exact wp_region (wpOps_add (fun e a w hp => ⟨a, rfl, hp⟩) _ _ _ (regX_wpOps hm h hG hS hF))
  | seq x y ihx ihy =>
    intro ac hc hs Q a S h E w act hG hS hF
    simp only [compX, compG, Option.map_eq_some_iff, Option.bind_eq_some_iff] at hc
    obtain ⟨X, hX, Y, hY, rfl⟩ := hc
    simp only [strB, Bool.and_eq_true] at hs
    simp only [AW] at h
    refine wp_seq (wp_mono (ihx X hX hs.1 _ a S h E w act hG hS hF) fun e act' w' hp => ?_)
    obtain ⟨act0, rfl, a', S', E', q, s, r, ev⟩ := hp
    cases e with
    | normal =>
      exact wp_mono (ihy Y hY hs.2 Q a' S' q E' w' act0 (hG.le ev.evo.le) s r) fun e act2 w2 ⟨act3, e3, hp2⟩ => ⟨act3, e3, hp2.trans ev⟩
    | _ => exact ⟨act0, rfl, a', S', E', q, s, r, ev⟩
  | _ => intro ac hc hs; simp [strB] at hs
/-! ### a closure that recovers -/
/-- recover, and what is done with its value. -/
def recInv : Code → Option (Nat × Nat × Code)
  | .seq (.region _ ⟨[⟨some d, .call ⟨.builtin .recover, ⟨[]⟩, _⟩, _, _, _, none⟩, ⟨some e, .assign (.tmp d'), _, _, _, none⟩]⟩ false) rest => if d' = d then some (d, e, rest) else none
  | _ => none
def recAC (P : Program) (f : FuncId) : Option (Nat × Nat × AC × Nat) :=
  match P.funcs[f]? with
  | none => none
  | some fn => match fn.body with
    | none => none
    | some c => if (fn.name == "runtime.NumGoroutine") = false ∧ fn.results = #[] then match recInv c with
      | none => none
      | some (d, e, rest) => if d < fn.ntmps ∧ e < fn.ntmps then (comp P fn.ntmps rest).map fun ac => (d, e, ac, fn.ntmps) else none
      else none
theorem recInv_inv {c : Code} {d e : Nat} {rest : Code} (h : recInv c = some (d, e, rest)) : ∃ id o p, c = .seq (.region id #[o, p] false) rest ∧ (∃ ts, o.op = .call ⟨.builtin .recover, #[], ts⟩) ∧ o.guard = none ∧ o.dst = some d ∧ p.op = .assign (.tmp d) ∧ p.guard = none ∧ p.dst = some e := by
  unfold recInv at h
  split at h
  · split at h
    · rename_i hd
      cases h
      subst hd
      exact ⟨_, _, _, rfl, ⟨_, rfl⟩, rfl, rfl, rfl, rfl, rfl⟩
    · cases h
  · cases h
theorem recAC_inv {P : Program} {f : FuncId} {d e n : Nat} {ac : AC} (h : recAC P f = some (d, e, ac, n)) : ∃ fn c rest, P.funcs[f]? = some fn ∧ (fn.name == "runtime.NumGoroutine") = false ∧ fn.body = some c ∧ fn.results = #[] ∧ recInv c = some (d, e, rest) ∧ d < n ∧ e < n ∧ comp P n rest = some ac ∧ fn.ntmps = n := by
  unfold recAC at h
  split at h
  · cases h
  · rename_i fn hf
    split at h
    · cases h
    · rename_i c hc
      split at h
      · rename_i hcond
        split at h
        · cases h
        · rename_i d' e' rest hr
          split at h
          · rename_i hlt
            simp only [Option.map_eq_some_iff, Prod.mk.injEq] at h
            obtain ⟨ac', h1, rfl, rfl, rfl, rfl⟩ := h
            exact ⟨fn, c, rest, hf, hcond.1, hc, hcond.2, hr, hlt.1, hlt.2, h1, rfl⟩
          · cases h
      · cases h
/-- What recover answers, and how the frame that unwinds goes on. -/
def recU : FrameMode → Value × FrameMode
  | .panicking [{ v, recovered := false, goexit := false }] => (v, .panicking [{ v, recovered := true }])
  | u => (.nilIface, u)
theorem rec_ok {P : Program} (hm : P.follows .mixedOrders = true) {f : FuncId} {d e n : Nat} {ac : AC} (h : recAC P f = some (d, e, ac, n)) {args : List AV} (hn : args.length ≤ n) {S : St} {u : FrameMode} (hu : u = .returning ∨ ∃ v, u = .panicking [{ v, recovered := false }]) (hs : scalar (recU u).1 = true) {K : St → Prop}
    (hb : AW P ac (fun ex a S' => (ex = .normal ∨ ex = .ret) ∧ K S') (((argF args).put (some d) (.v (recU u).1)).put (some e) (.v (recU u).1)) S) :
    ∀ E w vals, Gam P E.H → Sim E S w → Reps E args vals → CallsD P f vals u w fun en u2 w' => ∃ S' E' v, en = .returned v ∧ u2 = (recU u).2 ∧ K S' ∧ Sim E' S' w' ∧ Ev E S w E' S' w' := by
  intro E w vals hG hS hv
  obtain ⟨fn, c, rest, hf, hnm, hbd, hres, hinv, hd, he, hac, rfl⟩ := recAC_inv h
  obtain ⟨id, o, p, rfl, ⟨ts, ho⟩, hog, hod, hp, hpg, hpd⟩ := recInv_inv hinv
  refine callsD_of_wpS hf hbd fun c₀ cs hc => ?_
  have hF0 := repF_args hv hn
  have hF1 := (hF0.put (dst := some d) (by intro d' e'; cases e'; exact hd) (.v (recU u).1 hs)).put (dst := some e) (by intro d' e'; cases e'; exact he) (.v (recU u).1 hs)
  have hrun : ∀ (act : Act) (w : World), (execOp act.eval o).run P w = .ok .recover w := by
    intro act w
    simp only [execOp, ho, resolve, invoke, Sem.run_bind]
    rfl
  have hrec : ∀ {Q : Exit → Act → List Frame → World → Prop} {act : Act} {w : World}, Q .normal ((act.put (some d) (recU u).1).put (some e) (recU u).1) ({ c₀ with mode := (recU u).2 } :: cs) w → d < act.tmps.size → wpOpsS P #[o, p] Q (List.range 2) act (c₀ :: cs) w := by
    intro Q act w hq hsz
    have hl : List.range 2 = [0, 1] := rfl
    have g0 : (#[o, p] : Array Oper)[0]? = some o := rfl
    have g1 : (#[o, p] : Array Oper)[1]? = some p := rfl
    have hrunp : ∀ (v : Value) (w : World), (execOp (act.put (some d) v).eval p).run P w = .ok (.value v) w := by
      intro v w
      simp only [execOp, hp]
      have : (act.put (some d) v).eval (.tmp d) = v := by
        simp [Act.put, Act.eval, hsz]
      rw [this]; rfl
    have fin : ∀ (v : Value) (cs' : List Frame), Q .normal ((act.put (some d) v).put (some e) v) cs' w → wpOpsS P #[o, p] Q [1] (act.put o.dst v) cs' w := by
      intro v cs' hq'
      rw [hod]
      simp only [wpOpsS, g1, Region.wanted, hpg, if_true, hrunp]
      rw [Oper.upon_value, hpd]
      exact hq'
    rw [hl]
    unfold wpOpsS
    simp only [g0, Region.wanted, hog, if_true, hrun]
    rcases hu with rfl | ⟨v, rfl⟩
    · have hr : recoverD (c₀ :: cs) = none := by simp only [recoverD, hc]
      rw [hr]
      have hcc : ({ c₀ with mode := .returning } : Frame) = c₀ := by rw [← hc]
      simp only [recU, hcc] at hq
      exact fin _ _ hq
    · have hr : recoverD (c₀ :: cs) = some (v, { c₀ with mode := .panicking [{ v, recovered := true }] } :: cs) := by simp only [recoverD, hc]
      rw [hr]
      exact fin _ _ hq
  refine wpS_seq (wpS_region (hrec ?_ ?_))
  · show (Code.wpS P rest _ _ _ _)
    refine wpS_of_wp (wp_mono (aw_sound hm ac rest hac _ _ _ hb E w _ hG hS hF1) fun ex act' w' hpost => ?_)
    obtain ⟨a', S', E', ⟨hex, hk⟩, hS', hF', hev⟩ := hpost
    have hrs := run_results (P := P) (fn := fn) (ts := []) (by simpa using hres) act'.tmps w'
    rcases hex with rfl | rfl
    · exact ⟨hF'.defers, _, rfl, _, hrs, S', E', _, rfl, rfl, hk, hS', hev⟩
    · exact ⟨hF'.defers, _, rfl, _, hrs, S', E', _, rfl, rfl, hk, hS', hev⟩
  · have := hF0.size
    rw [this]; exact hd
end Go.Rf


/- Own work: a function that lays cells, looks whether to go on, defers a closure that recovers, and goes on. -/
set_option linter.unusedVariables false
set_option linter.unusedSimpArgs false
namespace Go.Rf
open Go.RowKit

structure M1 where
  a0 : AC
  ag : AC
  d : Nat
  g : FuncId
  x : Nat
  y : Nat
  ar : AC
  nt : Nat
  rs : List RV
def defInv : Code → Option (Code × Code × Nat × FuncId × Nat × Nat × Code)
  | .seq c0 (.seq cg (.seq (.region _ ⟨[⟨some d, .makeFunc (.func g) ⟨[]⟩ ⟨[.tmp x, .tmp y]⟩, _, _, _, none⟩, ⟨none, .defer ⟨.value (.tmp d'), ⟨[]⟩, _⟩, _, _, _, none⟩]⟩ false) rest)) => if d = d' then some (c0, cg, d, g, x, y, rest) else none
  | _ => none
def m1Of (P : Program) (f : FuncId) : Option M1 :=
  match P.funcs[f]? with
  | none => none
  | some fn => match fn.body with
    | none => none
    | some c => if (fn.name == "runtime.NumGoroutine") = false then match defInv c with
      | none => none
      | some (c0, cg, d, g, x, y, rest) => if d < fn.ntmps ∧ strB rest = true then
          (compX P fn.ntmps c0).bind fun A0 => (compX P fn.ntmps cg).bind fun AG => (compX P fn.ntmps rest).bind fun AR => (fn.results.toList.mapM (rvOf P)).map fun rs => ⟨A0, AG, d, g, x, y, AR, fn.ntmps, rs⟩
        else none
      else none
theorem defInv_inv {c c0 cg rest : Code} {d x y : Nat} {g : FuncId} (h : defInv c = some (c0, cg, d, g, x, y, rest)) : ∃ id o p, c = .seq c0 (.seq cg (.seq (.region id #[o, p] false) rest)) ∧ o.op = .makeFunc (.func g) #[] #[.tmp x, .tmp y] ∧ o.guard = none ∧ o.dst = some d ∧
    (∃ ts, p.op = .defer ⟨.value (.tmp d), #[], ts⟩) ∧ p.guard = none ∧ p.dst = none := by
  unfold defInv at h
  split at h
  · split at h
    · rename_i hd
      cases h
      subst hd
      exact ⟨_, _, _, rfl, rfl, rfl, rfl, ⟨_, rfl⟩, rfl, rfl⟩
    · cases h
  · cases h
theorem m1_inv {P : Program} {f : FuncId} {m : M1} (h : m1Of P f = some m) : ∃ fn c c0 cg rest, P.funcs[f]? = some fn ∧ (fn.name == "runtime.NumGoroutine") = false ∧ fn.body = some c ∧ defInv c = some (c0, cg, m.d, m.g, m.x, m.y, rest) ∧ m.d < fn.ntmps ∧ strB rest = true ∧
    compX P fn.ntmps c0 = some m.a0 ∧ compX P fn.ntmps cg = some m.ag ∧ compX P fn.ntmps rest = some m.ar ∧ fn.results.toList.mapM (rvOf P) = some m.rs ∧ fn.ntmps = m.nt := by
  unfold m1Of at h
  split at h
  · cases h
  · rename_i fn hf
    split at h
    · cases h
    · rename_i c hc
      split at h
      · rename_i hnm
        split at h
        · cases h
        · rename_i c0 cg d g x y rest hd
          split at h
          · rename_i hcond
            simp only [Option.bind_eq_some_iff, Option.map_eq_some_iff] at h
            obtain ⟨A0, h0, AG, h1, AR, h2, rs, h3, rfl⟩ := h
            exact ⟨fn, c, c0, cg, rest, hf, hnm, hc, hd, hcond.1, hcond.2, h0, h1, h2, h3, rfl⟩
          · cases h
      · cases h
/-- The deferred closure, and the results behind it. -/
def Dfr (P : Program) (acr : AC) (dr er : Nat) (rs : List RV) (cap : List AV) (K : AV → St → Prop) (u : FrameMode) (a' : AF) (S' : St) : Prop :=
  AW P acr (fun ex _ S2 => (ex = .normal ∨ ex = .ret) ∧ ∃ xs, evC a' S2.g rs = some xs ∧ K (packC xs) S2) (((argF cap).put (some dr) (.v (recU u).1)).put (some er) (.v (recU u).1)) S'
def RestQ (P : Program) (acr : AC) (dr er : Nat) (rs : List RV) (cap : List AV) (K : AV → St → Prop) : Exit → AF → St → Prop := fun e a' S' =>
  match e with
  | .ret => Dfr P acr dr er rs cap K .returning a' S'
  | .normal => Dfr P acr dr er rs cap K .returning a' S'
  | .panic ch => ∃ v, ch = [{ v, recovered := false }] ∧ scalar v = true ∧ Dfr P acr dr er rs cap K (.panicking [{ v, recovered := false }]) a' S'
  | _ => False
def GuaQ (P : Program) (m : M1) (acr : AC) (dr er : Nat) (K : AV → St → Prop) : Exit → AF → St → Prop := fun e a S =>
  match e with
  | .ret => ∃ xs, evC a S.g m.rs = some xs ∧ K (packC xs) S
  | .normal => AW P m.ar (RestQ P acr dr er m.rs [a m.x, a m.y] K) (a.put (some m.d) (.clo m.g [] [a m.x, a m.y])) S
  | _ => False
def PreQ (P : Program) (m : M1) (acr : AC) (dr er : Nat) (K : AV → St → Prop) : Exit → AF → St → Prop := fun e a S =>
  match e with
  | .normal => AW P m.ag (GuaQ P m acr dr er K) a S
  | _ => False
theorem catch_ok {P : Program} (hm : P.follows .mixedOrders = true) {f : FuncId} {m : M1} (h : m1Of P f = some m) {dr er nr : Nat} {acr : AC} (h' : recAC P m.g = some (dr, er, acr, nr)) (hnr : 2 ≤ nr) {args : List AV} (hn : args.length ≤ m.nt) {S : St} {K : AV → St → Prop}
    (hb : AW P m.a0 (PreQ P m acr dr er K) (argF args) S) : CallR P f args S K := by
  obtain ⟨fn, c, c0, cg, rest, hf, hnm, hbd, hinv, hd, hstr, hc0, hcg, hcr, hrs, hnt⟩ := m1_inv h
  obtain ⟨id, o, p, rfl, ho, hog, hod, ⟨ts, hp⟩, hpg, hpd⟩ := defInv_inv hinv
  refine ⟨callable_of hf hnm hbd, fun E w vals hG hS hv => ?_⟩
  rw [← hnt] at hn
  refine calls_of_wp_defers hf hbd (wp_seq (wp_mono (aw_soundX hm m.a0 c0 hc0 _ _ _ hb E w _ hG hS (repF_args hv hn)) fun e act w1 hp1 => ?_))
  obtain ⟨a1, S1, E1, q1, hS1, hF1, ev1⟩ := hp1
  cases e <;> simp only [PreQ] at q1
  refine wp_seq (wp_mono (aw_soundX hm m.ag cg hcg _ _ _ q1 E1 w1 act (hG.le ev1.evo.le) hS1 hF1) fun e act2 w2 hp2 => ?_)
  obtain ⟨a2, S2, E2, q2, hS2, hF2, ev2⟩ := hp2
  cases e <;> simp only [GuaQ] at q2
  case ret =>
    obtain ⟨xs, hx, hk⟩ := q2
    obtain ⟨val, k1, k2⟩ := run_resultsC (P := P) (fn := fn) hS2 hF2 hrs hx
    show Leaves P fn act2.tmps _ act2.defers .returning w2
    rw [hF2.defers]
    exact ⟨val, k1, val, _, S2, E2, rfl, hk, hS2, k2, ev1.trans ev2⟩
  case normal =>
    -- the closure is deferred
    have rx : Rep E2 (a2 m.x) (act2.eval (.tmp m.x)) := hF2.at_ m.x
    have ry : Rep E2 (a2 m.y) (act2.eval (.tmp m.y)) := hF2.at_ m.y
    have hclo : Rep E2 (.clo m.g [] [a2 m.x, a2 m.y]) (.func (.func m.g) #[] #[act2.eval (.tmp m.x), act2.eval (.tmp m.y)]) := by
      refine .clo m.g [] [a2 m.x, a2 m.y] #[] #[act2.eval (.tmp m.x), act2.eval (.tmp m.y)] rfl rfl (fun j hj => by simp at hj) (fun j hj => ?_)
      match j, hj with
      | 0, _ => exact rx
      | 1, _ => exact ry
    have hF3 := hF2.put (dst := some m.d) (by intro d' e'; cases e'; exact hd) hclo
    let D : Deferred := { target := .fn (.func m.g) #[act2.eval (.tmp m.x), act2.eval (.tmp m.y)], args := #[] }
    have hrun1 : (execOp act2.eval o).run P w2 = .ok (.value (.func (.func m.g) #[] #[act2.eval (.tmp m.x), act2.eval (.tmp m.y)])) w2 := by
      simp [execOp, ho, Instr.makeFunc]
    have hsz := hF2.size
    have hrun2 : (execOp (act2.put (some m.d) (.func (.func m.g) #[] #[act2.eval (.tmp m.x), act2.eval (.tmp m.y)])).eval p).run P w2 = .ok (.defer D) w2 := by
      have he : (act2.put (some m.d) (.func (.func m.g) #[] #[act2.eval (.tmp m.x), act2.eval (.tmp m.y)])).eval (.tmp m.d) = .func (.func m.g) #[] #[act2.eval (.tmp m.x), act2.eval (.tmp m.y)] := by
        have : m.d < act2.tmps.size := by rw [hsz]; exact hd
        simp [Act.put, Act.eval, this]
      simp only [execOp, hp, Sem.run_bind, run_resolve_func _ _ _ _ _ he, Result.andThen_ok]
      simp [D]
    refine wp_seq (wp_region ?_)
    have hl : List.range (#[o, p] : Array Oper).size = [0, 1] := rfl
    have g0 : (#[o, p] : Array Oper)[0]? = some o := rfl
    have g1 : (#[o, p] : Array Oper)[1]? = some p := rfl
    rw [hl]
    simp only [wpOps, g0, g1, Region.wanted, hog, hpg, if_true]
    left
    unfold Oper.wp
    rw [hrun1, Oper.upon_value, hod]
    left
    rw [hrun2, Oper.upon_defer, hpd]
    have hact : ({ (act2.put (some m.d) (.func (.func m.g) #[] #[act2.eval (.tmp m.x), act2.eval (.tmp m.y)])) with defers := D :: (act2.put (some m.d) (.func (.func m.g) #[] #[act2.eval (.tmp m.x), act2.eval (.tmp m.y)])).defers } : Act).put none undef = addD [D] (act2.put (some m.d) (.func (.func m.g) #[] #[act2.eval (.tmp m.x), act2.eval (.tmp m.y)])) := by
      have := hF3.defers
      simp only [Act.put, addD] at this ⊢
      rw [this]; rfl
    rw [hact]
    show Code.wp P rest _ _ _
    refine wp_mono (awX_add hm [D] rest m.ar hcr hstr _ _ _ q2 E2 w2 _ (hG.le (ev1.trans ev2).evo.le) hS2 hF3) fun e act4 w4 hp4 => ?_
    obtain ⟨act5, rfl, a5, S5, E5, q5, hS5, hF5, ev5⟩ := hp4
    have hcap : Reps E5 [a2 m.x, a2 m.y] (#[] ++ #[act2.eval (.tmp m.x), act2.eval (.tmp m.y)]) := by
      refine ⟨rfl, fun j hj => ?_⟩
      match j, hj with
      | 0, _ => exact rx.mono ev5.evo.le
      | 1, _ => exact ry.mono ev5.evo.le
    obtain ⟨fr, cr, restr, hfr, hnmr, hbdr, _⟩ := recAC_inv h'
    have hcallable : Callable P m.g := callable_of hfr hnmr hbdr
    have hinvoke : (invoke D.target D.args).run P w4 = .ok (.enter m.g (#[] ++ #[act2.eval (.tmp m.x), act2.eval (.tmp m.y)])) w4 := by
      simp only [invoke]
      exact run_callFunc hcallable _ _
    have hdef : (addD [D] act5).defers = [D] := by
      simp only [addD, hF5.defers, List.nil_append]
    have fin : ∀ (u : FrameMode), (u = .returning ∨ ∃ v, u = .panicking [{ v, recovered := false }]) → settle (recU u).2 = .returning → scalar (recU u).1 = true → Dfr P acr dr er m.rs [a2 m.x, a2 m.y] K u a5 S5 →
        Leaves P fn act5.tmps (fun e w' => ∃ v r S' E', e = .returned v ∧ K r S' ∧ Sim E' S' w' ∧ Rep E' r v ∧ Ev E S w E' S' w') [D] u w4 := by
      intro u hu hset hsc hq
      refine ⟨by rcases hu with rfl | ⟨v, rfl⟩ <;> simp, _, _, _, _, rfl, hinvoke, ?_⟩
      refine (rec_ok hm h' (by simp; omega) hu hsc hq E5 w4 _ (hG.le ((ev1.trans ev2).trans ev5).evo.le) hS5 hcap).mono ?_
      rintro en u2 w6 ⟨S6, E6, v6, rfl, rfl, ⟨xs, hx, hk⟩, hS6, ev6⟩
      obtain ⟨val, k1, k2⟩ := run_resultsC (P := P) (fn := fn) hS6 (hF5.mono ev6.evo.le) hrs hx
      show Leaves P fn act5.tmps _ [] (settle (recU u).2) w6
      rw [hset]
      exact ⟨val, k1, val, _, S6, E6, rfl, hk, hS6, k2, ((ev1.trans ev2).trans ev5).trans ev6⟩
    have htm : (addD [D] act5).tmps = act5.tmps := rfl
    cases e <;> simp only [RestQ] at q5
    case normal =>
      show Leaves P fn (addD [D] act5).tmps _ (addD [D] act5).defers .returning w4
      rw [hdef, htm]
      exact fin _ (.inl rfl) rfl rfl q5
    case ret =>
      show Leaves P fn (addD [D] act5).tmps _ (addD [D] act5).defers .returning w4
      rw [hdef, htm]
      exact fin _ (.inl rfl) rfl rfl q5
    case panic ch =>
      obtain ⟨v, rfl, hsc, hq⟩ := q5
      show Leaves P fn (addD [D] act5).tmps _ (addD [D] act5).defers (.panicking _) w4
      rw [hdef, htm]
      exact fin _ (.inr ⟨v, rfl⟩) rfl hsc hq
end Go.Rf

