import Derived.Test.YtpinfihfbjkijaaDoorRfCell
/- Own work: what a call made is frozen when it has returned. -/
set_option linter.unusedVariables false
set_option linter.unusedSimpArgs false
namespace Go.Rf
open Go.RowKit

/-- r is frozen as z; what of the blocks is not g2's is forgotten. -/
def Stl (K : AV → St → Prop) (r : AV) (S' : St) : Prop :=
  ∃ z g g2, (∀ i k, g i = some k → S'.g i = some k) ∧ Fz g r z ∧ (∀ i k, g2 i = some k → S'.g i = some k ∧ g i = none) ∧ K z ⟨S'.n, g2⟩
theorem settle_ok {E E' : Env} {S S' : St} {w w' : World} (hS : Sim E' S' w') (hev : Ev E S w E' S' w') {g g2 : Nat → Option Blk} (hg : ∀ i k, g i = some k → S'.g i = some k) (hg2 : ∀ i k, g2 i = some k → S'.g i = some k ∧ g i = none) :
    ∃ H2, Sim ⟨E'.ρ, H2⟩ ⟨S'.n, g2⟩ w' ∧ Ev E S w ⟨E'.ρ, H2⟩ ⟨S'.n, g2⟩ w' ∧ ∀ {x z : AV} {v : Value}, Fz g x z → Rep E' x v → Rep ⟨E'.ρ, H2⟩ z v := by
  have hle : E'.le ⟨E'.ρ, stillH E' g w'⟩ := ⟨fun _ _ e => e, fun b cs e => stillH_of e⟩
  refine ⟨stillH E' g w', ⟨fun b cs e => ?_, fun i k e => ?_, fun i j ki kj li lj a b => hS.dis i j ki kj li lj (hg2 _ _ a).1 (hg2 _ _ b).1, hS.fresh⟩, ⟨⟨hev.evo.os, hev.evo.tape, hev.evo.output, hev.evo.size, hev.evo.keep, fun id l k hk hl => hev.evo.grow id l k (hg2 _ _ hk).1 hl, Env.le_trans hev.evo.le hle, fun b cs e => ?_⟩, hev.nle, hev.low⟩, ?_⟩
  · rcases stillH_inv e with h1 | ⟨_, h1, _⟩
    · exact hS.hH b cs h1
    · exact h1
  · obtain ⟨l, a1, a2, a3⟩ := hS.live i k (hg2 _ _ e).1
    refine ⟨l, a1, ?_, a3.mono hle rfl⟩
    show stillH E' g w' l.b = none
    cases e2 : stillH E' g w' l.b with
    | none => rfl
    | some cs =>
      exfalso
      rcases stillH_inv e2 with h2 | ⟨_, _, i2, k2, l2, b1, b2, b3⟩
      · rw [a2] at h2; cases h2
      · by_cases hii : i2 = i
        · subst hii; rw [(hg2 _ _ e).2] at b1; cases b1
        · exact hS.dis i2 i k2 k l2 l (hg _ _ b1) (hg2 _ _ e).1 hii b2 a1 b3
  · rcases stillH_inv e with h1 | ⟨_, _, i2, k2, l2, b1, b2, b3⟩
    · exact hev.evo.hsub b cs h1
    · rcases hev.evo.grow i2 l2 k2 (hg _ _ b1) b2 with h3 | ⟨id0, l0, k0, c1, c2, c3⟩
      · right; left; omega
      · exact .inr (.inr ⟨id0, l0, k0, c1, c2, c3.trans b3⟩)
  · intro x z v hz hr
    refine Fz.rep hS hg (E2 := ⟨E'.ρ, stillH E' g w'⟩) (fun b cs e => stillH_of e) (fun id es xs l hgi hli cs el fz hw => ?_) hz hr
    obtain ⟨l', a1, a2, _⟩ := hS.live id _ (hg _ _ hgi)
    rw [hli] at a1; cases a1
    exact stillH_g hgi hli a2 hw
theorem CallR.settle {P : Program} {f : FuncId} {args : List AV} {S : St} {K : AV → St → Prop} (h : CallR P f args S (Stl K)) : CallR P f args S K := by
  refine ⟨h.1, fun E w vals h0 h1 h2 => (h.2 E w vals h0 h1 h2).mono ?_⟩
  rintro e w' ⟨v, r, S', E', rfl, ⟨z, g, g2, hg, hz, hg2, hk⟩, hS, hr, hev⟩
  obtain ⟨H2, q1, q2, q3⟩ := settle_ok hS hev hg hg2
  exact ⟨v, z, ⟨S'.n, g2⟩, ⟨E'.ρ, H2⟩, rfl, hk, q1, q3 hz hr, q2⟩
theorem CallX.settle {P : Program} {f : FuncId} {args : List AV} {S : St} {K : AV → St → Prop} {X : Value → St → Prop} (h : CallX P f args S (Stl K) fun v S' => ∃ g2, (∀ i k, g2 i = some k → S'.g i = some k) ∧ X v ⟨S'.n, g2⟩) : CallX P f args S K X := by
  refine ⟨h.1, fun E w vals h0 h1 h2 => (h.2 E w vals h0 h1 h2).mono ?_⟩
  rintro e w' ⟨S', E', hS, hev, ⟨v, r, rfl, ⟨z, g, g2, hg, hz, hg2, hk⟩, hr⟩ | ⟨v, rfl, g2, hg2, hx⟩⟩
  · obtain ⟨H2, q1, q2, q3⟩ := settle_ok hS hev hg hg2
    exact ⟨⟨S'.n, g2⟩, ⟨E'.ρ, H2⟩, q1, q2, .inl ⟨v, z, rfl, hk, q3 hz hr⟩⟩
  · obtain ⟨H2, q1, q2, _⟩ := settle_ok (g := fun _ => none) hS hev (fun _ _ e => by cases e) (fun i k e => ⟨hg2 i k e, rfl⟩)
    exact ⟨⟨S'.n, g2⟩, ⟨E'.ρ, H2⟩, q1, q2, .inr ⟨v, rfl, hx⟩⟩
theorem CallX.weak {P : Program} {f : FuncId} {args args' : List AV} {S : St} {K : AV → St → Prop} {X : Value → St → Prop} (h : CallX P f args' S K X) (hl : args'.length = args.length) (hr : ∀ j (h1 : j < args.length) (h2 : j < args'.length) (E : Env) (v : Value), Rep E (args[j]) v → Rep E (args'[j]) v) : CallX P f args S K X :=
  ⟨h.1, fun E w vals hG hS hv => h.2 E w vals hG hS ⟨by rw [hv.1, hl], fun j hj => hr j (by omega) hj E _ (hv.2 j (by omega))⟩⟩
/-- A function that may panic, by its code. -/
def RetX (rs : List RV) (K : AV → St → Prop) (X : Value → St → Prop) : Exit → AF → St → Prop := fun e a S =>
  match e with
  | .panic ch => ∃ v, ch = [{ v, recovered := false }] ∧ X v S
  | e => RetC rs K e a S
def IsX (P : Program) (f : FuncId) (ac : AC) (rs : List RV) (n : Nat) : Prop :=
  ∃ fn c, P.funcs[f]? = some fn ∧ (fn.name == "runtime.NumGoroutine") = false ∧ fn.body = some c ∧ compX P fn.ntmps c = some ac ∧ fn.results.toList.mapM (rvOf P) = some rs ∧ n ≤ fn.ntmps
theorem IsX.callX {P : Program} (hm : P.follows .mixedOrders = true) {f : FuncId} {ac : AC} {rs : List RV} {n : Nat} (h : IsX P f ac rs n) {args : List AV} {S : St} {K : AV → St → Prop} {X : Value → St → Prop} (hn : args.length = n)
    (hb : AW P ac (RetX rs K X) (argF args) S) : CallX P f args S K X := by
  obtain ⟨fn, c, hf, hnm, hbd, hc, hr, h6⟩ := h
  refine ⟨callable_of hf hnm hbd, fun E w vals hG hS hv => ?_⟩
  refine calls_of_wp hf hbd (wp_mono (aw_soundX hm ac c hc _ _ _ hb E w _ hG hS (repF_args hv (by omega))) fun e act w' hp => ?_)
  obtain ⟨a, S', E', q, s, r, ev⟩ := hp
  cases e with
  | normal =>
    simp only [RetX, RetC] at q
    obtain ⟨xs, q1, q2⟩ := q
    obtain ⟨val, k1, k2⟩ := run_resultsC (P := P) (fn := fn) s r hr q1
    exact ⟨r.defers, _, k1, S', E', s, ev, .inl ⟨_, _, rfl, q2, k2⟩⟩
  | ret =>
    simp only [RetX, RetC] at q
    obtain ⟨xs, q1, q2⟩ := q
    obtain ⟨val, k1, k2⟩ := run_resultsC (P := P) (fn := fn) s r hr q1
    exact ⟨r.defers, _, k1, S', E', s, ev, .inl ⟨_, _, rfl, q2, k2⟩⟩
  | panic ch =>
    simp only [RetX] at q
    obtain ⟨v, rfl, hx⟩ := q
    exact ⟨r.defers, S', E', s, ev, .inr ⟨v, rfl, hx⟩⟩
  | _ => simp only [RetX, RetC] at q
/-! ### the rules of regions that may panic -/
def opX (P : Program) (base : Nat) (p : Option Opd) (os : List AOper) (i : Nat) (Q : Exit → AF → St → Prop) (a : AF) (d : Option Nat) (op : AOp) (S : St) (r : Option (AV × St)) : Prop :=
  match r with
  | some (v, S') => RGX P base p os (i + 1) Q (a.put d v) S'
  | none => nilG op a fun v => RGX P base p os (i + 1) Q (a.put d v) S
def contX (P : Program) (base : Nat) (p : Option Opd) (os : List AOper) (i : Nat) (Q : Exit → AF → St → Prop) (a : AF) (d : Option Nat) : AV → St → Prop := fun r S' => RGX P base p os (i + 1) Q (a.put d r) S'
def panX (Q : Exit → AF → St → Prop) (a : AF) : Value → St → Prop := fun v S' => Q (pn v) a S'
def callX (P : Program) (base : Nat) (p : Option Opd) (os : List AOper) (i : Nat) (Q : Exit → AF → St → Prop) (a : AF) (S : St) (d : Option Nat) (f : AV) (args : List AV) : Prop :=
  match f with
  | .clo f first cap => CallX P f (first ++ args ++ cap) S (contX P base p os i Q a d) (panX Q a)
  | _ => False
def gdX (P : Program) (base : Nat) (p : Option Opd) (o : AOper) (os : List AOper) (i : Nat) (Q : Exit → AF → St → Prop) (a : AF) (S : St) (g : AV) (want : Bool) : Prop :=
  match g with
  | .v (.bool b) => if b = want then RGX P base p (⟨o.dst, o.op, none, o.call⟩ :: os) i Q a S else RGX P base p os (i + 1) Q (a.put o.dst (.tup [])) S
  | .tup [] => RGX P base p os (i + 1) Q (a.put o.dst (.tup [])) S
  | _ => False
def endX (Q : Exit → AF → St → Prop) (a : AF) (S : St) (x : AV) : Prop :=
  match x with
  | .v (.iface t y) => Q (pn (.iface t y)) a S
  | _ => False
section
variable {P : Program} {Q : Exit → AF → St → Prop} {a : AF} {S : St} {base i : Nat} {os : List AOper} {d : Option Nat} {op : AOp} {p : Option Opd} {K : AF → St → Prop}
private theorem AW_regX_ : AW P (.regX os p) Q a S = RGX P S.n p os 0 Q a ⟨S.n + os.length, S.g⟩ := rfl
theorem Z0g : AW P (.regX os p) Q a S = RGX P S.n p os 0 Q a ⟨S.n + os.length, S.g⟩ := by rw [AW_regX_]
theorem Z1p : RGX P base none [] i Q a S = Q .normal a S := by simp only [RGX]
private theorem RGX_pan_ (x : Opd) : RGX P base (some x) [] i Q a S = endX Q a S (x.ev a) := rfl
theorem Z1r (x : Opd) : RGX P base (some x) [] i Q a S = endX Q a S (x.ev a) := by rw [RGX_pan_]
theorem Z3f (t : TypeId) (y : Value) : endX Q a S (.v (.iface t y)) = Q (pn (.iface t y)) a S := by simp only [endX]
theorem Z1q : RGX P base p (⟨d, op, none, none⟩ :: os) i Q a S = opX P base p os i Q a d op S ((ex op a).run S (base + i)) := by
  simp only [RGX, gd, opX]
  cases (ex op a).run S (base + i) <;> rfl
theorem Z4g (v : AV) (S' : St) : opX P base p os i Q a d op S (some (v, S')) = RGX P base p os (i + 1) Q (a.put d v) S' := by simp only [opX]
private theorem RGX_call_ (G : Opd) (xs : List Opd) : RGX P base p (⟨d, op, none, some (G, xs)⟩ :: os) i Q a S = callX P base p os i Q a S d (G.ev a) (xs.map (·.ev a)) := rfl
theorem Z1n (G : Opd) (xs : List Opd) : RGX P base p (⟨d, op, none, some (G, xs)⟩ :: os) i Q a S = callX P base p os i Q a S d (G.ev a) (xs.map (·.ev a)) := by rw [RGX_call_]
theorem Z2k (f : FuncId) (first cap args : List AV) : callX P base p os i Q a S d (.clo f first cap) args = CallX P f (first ++ args ++ cap) S (contX P base p os i Q a d) (panX Q a) := by simp only [callX]
theorem Z3e (r : AV) : contX P base p os i Q a d r S = RGX P base p os (i + 1) Q (a.put d r) S := by simp only [contX]
theorem Z4j (v : Value) : panX Q a v S = Q (pn v) a S := by simp only [panX]
theorem Z1o (g : Nat) (want : Bool) (c : Option (Opd × List Opd)) : RGX P base p (⟨d, op, some (g, want), c⟩ :: os) i Q a S = gdX P base p ⟨d, op, none, c⟩ os i Q a S (a g) want := by
  simp only [RGX, gd, gdX]
  cases h : a g with
  | v x =>
    cases x with
    | bool b =>
      simp only
      cases hb : (b == want) with
      | true => simp only [beq_iff_eq] at hb; rw [if_pos hb]
      | false => simp only [beq_eq_false_iff_ne, ne_eq] at hb; rw [if_neg hb]
    | _ => rfl
  | tup vs => cases vs <;> rfl
  | _ => rfl
theorem Z45 (c : Option (Opd × List Opd)) : gdX P base p ⟨d, op, none, c⟩ os i Q a S (.v (.bool true)) true = RGX P base p (⟨d, op, none, c⟩ :: os) i Q a S := by simp [gdX]
theorem Z42 (c : Option (Opd × List Opd)) : gdX P base p ⟨d, op, none, c⟩ os i Q a S (.v (.bool false)) false = RGX P base p (⟨d, op, none, c⟩ :: os) i Q a S := by simp [gdX]
theorem Z46 (want : Bool) (c : Option (Opd × List Opd)) : gdX P base p ⟨d, op, none, c⟩ os i Q a S (.tup []) want = RGX P base p os (i + 1) Q (a.put d (.tup [])) S := by simp [gdX]
theorem Z44 (c : Option (Opd × List Opd)) : gdX P base p ⟨d, op, none, c⟩ os i Q a S (.v (.bool true)) false = RGX P base p os (i + 1) Q (a.put d (.tup [])) S := by simp [gdX]
theorem Z43 (c : Option (Opd × List Opd)) : gdX P base p ⟨d, op, none, c⟩ os i Q a S (.v (.bool false)) true = RGX P base p os (i + 1) Q (a.put d (.tup [])) S := by simp [gdX]
theorem Z09 (v : Value) : AThen K Q (pn v) a S = Q (pn v) a S := by simp only [pn, AThen]
theorem Z02 (id : Nat) (v : Value) : ABlock id Q (pn v) a S = Q (pn v) a S := by simp only [pn, ABlock]
theorem Z2a (rs : List RV) (R : AV → St → Prop) (X : Value → St → Prop) (v : Value) : RetX rs R X (pn v) a S = X v S := by
  simp only [RetX, pn]
  apply propext
  constructor
  · rintro ⟨u, e, h⟩
    simp only [List.cons.injEq, PanicEntry.mk.injEq, and_true] at e
    obtain ⟨rfl⟩ := e
    exact h
  · intro h; exact ⟨v, rfl, h⟩
theorem Z2b (rs : List RV) (R : AV → St → Prop) (X : Value → St → Prop) : RetX rs R X .ret a S = RetC rs R .ret a S := by simp only [RetX]
theorem Z29 (rs : List RV) (R : AV → St → Prop) (X : Value → St → Prop) : RetX rs R X .normal a S = RetC rs R .normal a S := by simp only [RetX]
end
end Go.Rf

