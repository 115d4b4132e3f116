import Derived.Test.YtidkjfaeolfcaaaGreatRfNew
set_option linter.unusedVariables false
set_option linter.unusedSimpArgs false
namespace Go.Rf
open Go.RowKit

/-! ### which slots an operation looks at -/
def Opd.rds : Opd → List Nat
  | .t i => [i]
  | .c _ => []
def oRds : Option Opd → List Nat
  | none => []
  | some x => x.rds
def AOp.rds : AOp → List Nat
  | .mv x | .box _ x | .load _ x | .un _ x | .conv _ x | .fieldA _ x | .field _ _ x | .len x | .lenS x | .lenM x | .ext _ x | .nilc x | .cap x | .clr _ _ x | .nilq _ _ x | .mki _ x | .tas _ _ x | .inil _ x => x.rds
  | .pick c x y => c.rds ++ x.rds ++ y.rds
  | .alloc _ _ | .mmk => []
  | .store _ p x | .bin _ p x | .beq _ p x | .idxA _ p x | .idxP _ _ p x | .idxV _ _ _ p x | .idxS p x | .app _ _ p x | .mks _ _ _ p x | .look _ _ _ p x | .mm _ p x | .seq _ _ p x | .cpy _ p x | .appz _ _ _ p x => p.rds ++ x.rds
  | .mset _ m k x => m.rds ++ k.rds ++ x.rds
  | .slc _ x lo hi | .slcS x lo hi => x.rds ++ oRds lo ++ oRds hi
  | .build _ _ qs | .bslice _ _ _ qs => qs.flatMap fun q => q.2.rds
  | .mkf _ f c => (f ++ c).flatMap Opd.rds
theorem ev_eq {a b : AF} {x : Opd} (h : ∀ t ∈ x.rds, a t = b t) : x.ev a = x.ev b := by
  cases x with
  | t i => exact h i (by simp [Opd.rds])
  | c x => rfl
theorem evO_eq {a b : AF} {x : Option Opd} (h : ∀ t ∈ oRds x, a t = b t) : x.map (·.ev a) = x.map (·.ev b) := by
  cases x with
  | none => rfl
  | some x => simp only [Option.map_some]; rw [ev_eq h]
theorem evL_eq {a b : AF} : ∀ {xs : List Opd}, (∀ t ∈ xs.flatMap Opd.rds, a t = b t) → xs.map (·.ev a) = xs.map (·.ev b)
  | [], _ => rfl
  | x :: xs, h => by
    simp only [List.map_cons]
    rw [ev_eq (fun t ht => h t (by simp [ht])), evL_eq (xs := xs) (fun t ht => h t (by simp only [List.flatMap_cons, List.mem_append]; exact .inr ht))]
theorem evQ_eq {a b : AF} : ∀ {qs : List (Nat × Opd)}, (∀ t ∈ qs.flatMap (fun q => q.2.rds), a t = b t) → qs.map (fun q => (q.1, q.2.ev a)) = qs.map fun q => (q.1, q.2.ev b)
  | [], _ => rfl
  | q :: qs, h => by
    simp only [List.map_cons]
    rw [ev_eq (fun t ht => h t (by simp [ht])), evQ_eq (qs := qs) (fun t ht => h t (by simp only [List.flatMap_cons, List.mem_append]; exact .inr ht))]
theorem evZ_eq {a b : AF} : ∀ {rs : List (Nat × Nat)} {qs : List (Nat × Opd)}, (∀ t ∈ qs.flatMap (fun q => q.2.rds), a t = b t) →
    List.zipWith (fun r q => (r.1, r.2, q.2.ev a)) rs qs = List.zipWith (fun r q => (r.1, r.2, q.2.ev b)) rs qs
  | [], _, _ => by simp
  | _ :: _, [], _ => by simp
  | r :: rs, q :: qs, h => by
    simp only [List.zipWith_cons_cons]
    rw [ev_eq (fun t ht => h t (by simp [ht])), evZ_eq (rs := rs) (qs := qs) (fun t ht => h t (by simp only [List.flatMap_cons, List.mem_append]; exact .inr ht))]
theorem ex_eq {a b : AF} {op : AOp} (h : ∀ t ∈ op.rds, a t = b t) : ex op a = ex op b := by
  cases op <;> simp only [AOp.rds] at h <;> simp only [ex]
  case mv x => rw [ev_eq h]
  case pick c x y => rw [ev_eq (x := c) (fun t ht => h t (by simp [ht])), ev_eq (x := x) (fun t ht => h t (by simp [ht])), ev_eq (x := y) (fun t ht => h t (by simp [ht]))]
  case box m x => rw [ev_eq h]
  case load k p => rw [ev_eq h]
  case store m p x => rw [ev_eq (x := p) (fun t ht => h t (by simp [ht])), ev_eq (x := x) (fun t ht => h t (by simp [ht]))]
  case bin o p x => rw [ev_eq (x := p) (fun t ht => h t (by simp [ht])), ev_eq (x := x) (fun t ht => h t (by simp [ht]))]
  case beq q p x => rw [ev_eq (x := p) (fun t ht => h t (by simp [ht])), ev_eq (x := x) (fun t ht => h t (by simp [ht]))]
  case un o x => rw [ev_eq h]
  case conv k x => rw [ev_eq h]
  case fieldA off x => rw [ev_eq h]
  case idxA es p x => rw [ev_eq (x := p) (fun t ht => h t (by simp [ht])), ev_eq (x := x) (fun t ht => h t (by simp [ht]))]
  case idxP m es p x => rw [ev_eq (x := p) (fun t ht => h t (by simp [ht])), ev_eq (x := x) (fun t ht => h t (by simp [ht]))]
  case field k off x => rw [ev_eq h]
  case idxV m es k p x => rw [ev_eq (x := p) (fun t ht => h t (by simp [ht])), ev_eq (x := x) (fun t ht => h t (by simp [ht]))]
  case idxS p x => rw [ev_eq (x := p) (fun t ht => h t (by simp [ht])), ev_eq (x := x) (fun t ht => h t (by simp [ht]))]
  case len x => rw [ev_eq h]
  case lenS x => rw [ev_eq h]
  case app es c p x => rw [ev_eq (x := p) (fun t ht => h t (by simp [ht])), ev_eq (x := x) (fun t ht => h t (by simp [ht]))]
  case slc es x lo hi => rw [ev_eq (x := x) (fun t ht => h t (by simp [ht])), evO_eq (x := lo) (fun t ht => h t (by simp [ht])), evO_eq (x := hi) (fun t ht => h t (by simp [ht]))]
  case slcS x lo hi => rw [ev_eq (x := x) (fun t ht => h t (by simp [ht])), evO_eq (x := lo) (fun t ht => h t (by simp [ht])), evO_eq (x := hi) (fun t ht => h t (by simp [ht]))]
  case build z rs qs => rw [evZ_eq h]
  case bslice es m z qs => rw [evQ_eq h]
  case mks es c z p x => rw [ev_eq (x := p) (fun t ht => h t (by simp [ht])), ev_eq (x := x) (fun t ht => h t (by simp [ht]))]
  case ext i x => rw [ev_eq h]
  case lenM x => rw [ev_eq h]
  case seq q l p x => rw [ev_eq (x := p) (fun t ht => h t (by simp [ht])), ev_eq (x := x) (fun t ht => h t (by simp [ht]))]
  case nilc x => rw [ev_eq h]
  case cap x => rw [ev_eq h]
  case nilq sl neg x => rw [ev_eq h]
  case mki t x => rw [ev_eq h]
  case tas t z x => rw [ev_eq h]
  case inil neg x => rw [ev_eq h]
  case appz es b z p x => rw [ev_eq (x := p) (fun t ht => h t (by simp [ht])), ev_eq (x := x) (fun t ht => h t (by simp [ht]))]
  case clr es z x => rw [ev_eq h]
  case cpy es p x => rw [ev_eq (x := p) (fun t ht => h t (by simp [ht])), ev_eq (x := x) (fun t ht => h t (by simp [ht]))]
  case mm mx p x => rw [ev_eq (x := p) (fun t ht => h t (by simp [ht])), ev_eq (x := x) (fun t ht => h t (by simp [ht]))]
  case look d z ok p x => rw [ev_eq (x := p) (fun t ht => h t (by simp [ht])), ev_eq (x := x) (fun t ht => h t (by simp [ht]))]
  case mset d c x y => rw [ev_eq (x := c) (fun t ht => h t (by simp [ht])), ev_eq (x := x) (fun t ht => h t (by simp [ht])), ev_eq (x := y) (fun t ht => h t (by simp [ht]))]
  case mkf f xs ys =>
    have h1 : xs.map (·.ev a) = xs.map (·.ev b) := evL_eq (fun t ht => h t (by simp only [List.flatMap_append, List.mem_append]; exact .inl ht))
    have h2 : ys.map (·.ev a) = ys.map (·.ev b) := evL_eq (fun t ht => h t (by simp only [List.flatMap_append, List.mem_append]; exact .inr ht))
    rw [h1, h2]
def AOper.rds (o : AOper) : List Nat :=
  (match o.guard with | none => [] | some (d, _) => [d]) ++ (match o.call with | some (G, xs) => G.rds ++ xs.flatMap Opd.rds | none => o.op.rds)
theorem gd_eq {a b : AF} {o : AOper} (h : ∀ t ∈ o.rds, a t = b t) : gd o a = gd o b := by
  unfold gd
  cases hg : o.guard with
  | none => rfl
  | some p =>
    obtain ⟨d, w⟩ := p
    have : a d = b d := h d (by simp [AOper.rds, hg])
    simp only [this]
/-! ### a step that is recorded -/
structure DS where
  i : Nat
  o : AOper
  F : List Nat
  W : List Nat
  U : Nat → Option Blk
  v : AV
def St.over (S : St) (W : List Nat) (U : Nat → Option Blk) : St := ⟨S.n, fun j => if j ∈ W then U j else S.g j⟩
def only (F : List Nat) (g : Nat → Option Blk) : Nat → Option Blk := fun j => if j ∈ F then g j else none
/-- A call whose result hangs on what is handed over alone. -/
def CallD (P : Program) (f : FuncId) (args : List AV) (S : St) (F : List Nat) (r : AV) : Prop :=
  ∃ args', PureC P f args' r ∧ args'.length = args.length ∧ (∀ j (h1 : j < args.length) (h2 : j < args'.length), Fz (only F S.g) (args[j]) (args'[j])) ∧ (Plain r ∨ (F = [] ∧ Closed r) ∨ (Closed r ∧ PureN P f args' r))
inductive DStep (P : Program) (base : Nat) (s : DS) (a : AF) (S : St) : AF → St → Prop
  | skip (h : gd s.o a = some false) (hF : s.F = []) (hW : s.W = []) (hv : s.v = .tup []) : DStep P base s a S (a.put s.o.dst (.tup [])) S
  | call (h : gd s.o a = some true) (G : Opd) (xs : List Opd) (hc : s.o.call = some (G, xs)) (f : FuncId) (first cap : List AV) (hG : G.ev a = .clo f first cap) (hW : s.W = [])
      (hr : CallD P f (first ++ xs.map (·.ev a) ++ cap) S s.F s.v) : DStep P base s a S (a.put s.o.dst s.v) S
  | op (h : gd s.o a = some true) (hc : s.o.call = none) (bs : List Blk) (hb : (ex s.o.op a).F.mapM S.g = some bs) (out : Out) (ho : (ex s.o.op a).k bs = some out) (hF : s.F = (ex s.o.op a).F)
      (hv : s.v = out.v (base + s.i)) (hW : (out.up ≠ [] → ∀ j ∈ s.F, j ∈ s.W) ∧ (out.nw.isSome = true → base + s.i ∈ s.W))
      (hW2 : ∀ j ∈ s.W, (out.up ≠ [] ∧ j ∈ s.F) ∨ (out.nw.isSome = true ∧ j = base + s.i))
      (hU : ∀ j ∈ s.W, s.U j = ((S.setL (ex s.o.op a).F out.up).setO (base + s.i) out.nw).g j) : DStep P base s a S (a.put s.o.dst s.v) ((S.setL (ex s.o.op a).F out.up).setO (base + s.i) out.nw)
theorem setL_n : ∀ (F : List Nat) (ks : List (Option Blk)) (S : St), (S.setL F ks).n = S.n
  | [], ks, S => by cases ks <;> rfl
  | i :: F, [], S => rfl
  | i :: F, k :: ks, S => by simp only [St.setL]; rw [setL_n F ks]; rfl
theorem setL_out : ∀ (F : List Nat) (ks : List (Option Blk)) (S : St) (j : Nat), j ∉ F → (S.setL F ks).g j = S.g j
  | [], ks, S, j, _ => by cases ks <;> rfl
  | i :: F, [], S, j, _ => rfl
  | i :: F, k :: ks, S, j, h => by
    simp only [St.setL]; rw [setL_out F ks _ j (by simp at h; exact h.2)]
    simp only [List.mem_cons, not_or] at h
    simp [St.set, updF, h.1]
theorem setL_agree : ∀ (F : List Nat) (ks : List (Option Blk)) (S T : St) (j : Nat), S.g j = T.g j → (S.setL F ks).g j = (T.setL F ks).g j
  | [], ks, S, T, j, h => by cases ks <;> exact h
  | i :: F, [], S, T, j, h => h
  | i :: F, k :: ks, S, T, j, h => by
    simp only [St.setL]
    refine setL_agree F ks _ _ j ?_
    simp only [St.set, updF]; split <;> first | rfl | exact h
theorem setO_n (S : St) (i : Nat) (k : Option Blk) : (S.setO i k).n = S.n := by cases k <;> rfl
theorem setO_agree (S T : St) (i : Nat) (k : Option Blk) (j : Nat) (h : S.g j = T.g j) : (S.setO i k).g j = (T.setO i k).g j := by
  cases k with
  | none => exact h
  | some b => simp only [St.setO, St.set, updF]; split <;> first | rfl | exact h
theorem St.ext' {S T : St} (h1 : S.n = T.n) (h2 : ∀ j, S.g j = T.g j) : S = T := by
  cases S; cases T; simp only [St.mk.injEq] at *; exact ⟨h1, funext h2⟩
theorem DStep.shape {P : Program} {base : Nat} {s : DS} {a : AF} {S : St} {a' : AF} {S' : St} (h : DStep P base s a S a' S') : a' = a.put s.o.dst s.v ∧ S' = S.over s.W s.U := by
  cases h with
  | skip h hF hW hv => exact ⟨by rw [hv], by rw [hW]; exact St.ext' rfl (fun j => by simp [St.over])⟩
  | call h G xs hc f first cap hG hW hr => exact ⟨rfl, by rw [hW]; exact St.ext' rfl (fun j => by simp [St.over])⟩
  | op h hc bs hb out ho hF hv hW hW2 hU =>
    refine ⟨rfl, St.ext' (by rw [setO_n, setL_n]; rfl) (fun j => ?_)⟩
    by_cases hj : j ∈ s.W
    · simp only [St.over, hj, if_true]; exact (hU j hj).symm
    · simp only [St.over, hj, if_false]
      have h1 : ((S.setL (ex s.o.op a).F out.up).setO (base + s.i) out.nw).g j = (S.setL (ex s.o.op a).F out.up).g j := by
        cases hn : out.nw with
        | none => rfl
        | some b =>
          simp only [St.setO, St.set, updF]
          rw [if_neg]
          intro e; subst e; exact hj (hW.2 (by rw [hn]; rfl))
      rw [h1]
      by_cases hup : out.up = []
      · rw [hup]; cases (ex s.o.op a).F <;> rfl
      · exact setL_out _ _ _ _ (fun hjF => hj (hW.1 hup j (by rw [hF]; exact hjF)))
theorem only_sub {F : List Nat} {g : Nat → Option Blk} : ∀ i k, only F g i = some k → g i = some k := by
  intro i k h; simp only [only] at h; split at h
  · exact h
  · cases h
theorem only_eq {F : List Nat} {g g' : Nat → Option Blk} (h : ∀ j ∈ F, g j = g' j) : only F g = only F g' := by
  funext j; simp only [only]; split
  · exact h j ‹_›
  · rfl
theorem mapM_agree {F : List Nat} {g g' : Nat → Option Blk} (h : ∀ j ∈ F, g j = g' j) : F.mapM g = F.mapM g' := by
  induction F with
  | nil => rfl
  | cons i F ih => simp only [List.mapM_cons]; rw [h i (by simp), ih (fun j hj => h j (by simp [hj]))]
theorem DStep.move {P : Program} {base : Nat} {s : DS} {a : AF} {S : St} {a' : AF} {S' : St} (h : DStep P base s a S a' S') {b : AF} {T : St} (ha : ∀ t ∈ s.o.rds, a t = b t) (hS : ∀ j ∈ s.F, S.g j = T.g j) :
    DStep P base s b T (b.put s.o.dst s.v) (T.over s.W s.U) := by
  cases h with
  | skip h hF hW hv =>
    have : T.over s.W s.U = T := by rw [hW]; exact St.ext' rfl (fun j => by simp [St.over])
    rw [this, hv]; exact .skip (by rw [← gd_eq ha]; exact h) hF hW hv
  | call h G xs hc f first cap hG hW hr =>
    have : T.over s.W s.U = T := by rw [hW]; exact St.ext' rfl (fun j => by simp [St.over])
    rw [this]
    have hrd : ∀ t ∈ G.rds ++ xs.flatMap Opd.rds, a t = b t := fun t ht => ha t (by simp only [AOper.rds, hc, List.mem_append]; exact .inr (by simpa using ht))
    have e1 : G.ev b = G.ev a := (ev_eq (fun t ht => hrd t (by simp [ht]))).symm
    have e2 : xs.map (·.ev b) = xs.map (·.ev a) := (evL_eq (fun t ht => hrd t (List.mem_append.mpr (.inr ht)))).symm
    refine .call (by rw [← gd_eq ha]; exact h) G xs hc f first cap (by rw [e1]; exact hG) hW ?_
    rw [e2]
    obtain ⟨args', q1, q2, q3, q4⟩ := hr
    exact ⟨args', q1, q2, by rw [← only_eq hS]; exact q3, q4⟩
  | op h hc bs hb out ho hF hv hW hW2 hU =>
    have hrd : ∀ t ∈ s.o.op.rds, a t = b t := fun t ht => ha t (by simp only [AOper.rds, hc, List.mem_append]; exact .inr ht)
    have he : ex s.o.op b = ex s.o.op a := (ex_eq hrd).symm
    have key : ∀ j ∈ s.W, s.U j = ((T.setL (ex s.o.op b).F out.up).setO (base + s.i) out.nw).g j := by
      intro j hj
      rw [hU j hj, he]
      rcases hW2 j hj with ⟨_, h2⟩ | ⟨h2, rfl⟩
      · exact setO_agree _ _ _ _ _ (setL_agree _ _ _ _ _ (hS j h2))
      · cases hn : out.nw with
        | none => rw [hn] at h2; simp at h2
        | some bk => simp [St.setO, St.set, updF]
    have hd : DStep P base s b T (b.put s.o.dst s.v) ((T.setL (ex s.o.op b).F out.up).setO (base + s.i) out.nw) :=
      .op (by rw [← gd_eq ha]; exact h) hc bs (by rw [he, ← mapM_agree (by rw [← hF]; exact hS)]; exact hb) out (by rw [he]; exact ho) (by rw [he]; exact hF) hv hW hW2 key
    have := hd.shape.2
    rw [this] at hd; exact hd
structure Ind (s t : DS) : Prop where
  r1 : ∀ d, s.o.dst = some d → d ∉ t.o.rds
  r2 : ∀ d, t.o.dst = some d → d ∉ s.o.rds
  dd : ∀ d, s.o.dst = some d → t.o.dst ≠ some d
  wf : ∀ j ∈ s.W, j ∉ t.F
  fw : ∀ j ∈ t.W, j ∉ s.F
  ww : ∀ j ∈ s.W, j ∉ t.W
theorem AF.put_eq {a : AF} {d : Option Nat} {x : AV} {t : Nat} (h : ∀ e, d = some e → t ≠ e) : a.put d x t = a t := by
  cases d with
  | none => rfl
  | some e => simp [AF.put, updF, h e rfl]
theorem AF.put_comm {a : AF} {d e : Option Nat} {x y : AV} (h : ∀ k, d = some k → e ≠ some k) : (a.put d x).put e y = (a.put e y).put d x := by
  cases d with
  | none => rfl
  | some d =>
    cases e with
    | none => rfl
    | some e =>
      funext t
      have : d ≠ e := fun q => h d rfl (by rw [q])
      simp only [AF.put, updF]
      by_cases h1 : t = e
      · subst h1; simp; intro q; exact (this q.symm).elim
      · simp [h1]
/-- Two steps that have nothing to do with one another, the other way round. -/
theorem DStep.swap {P : Program} {base : Nat} {s t : DS} {a a1 a2 : AF} {S S1 S2 : St} (hi : Ind s t) (h1 : DStep P base s a S a1 S1) (h2 : DStep P base t a1 S1 a2 S2) :
    ∃ b T, DStep P base t a S b T ∧ DStep P base s b T a2 S2 := by
  obtain ⟨rfl, rfl⟩ := h1.shape
  obtain ⟨e2, e3⟩ := h2.shape
  have m1 := h2.move (b := a) (T := S) (fun q hq => AF.put_eq (fun e he => by intro h3; subst h3; exact hi.r1 _ he hq)) (fun j hj => by
    simp only [St.over]; rw [if_neg (fun hw => hi.wf j hw hj)])
  have m2 := h1.move (b := a.put t.o.dst t.v) (T := S.over t.W t.U) (fun q hq => (AF.put_eq (fun e he => by intro h3; subst h3; exact hi.r2 _ he hq)).symm) (fun j hj => by
    simp only [St.over]; rw [if_neg (fun hw => hi.fw j hw hj)])
  refine ⟨_, _, m1, ?_⟩
  rw [e2, e3, AF.put_comm (d := s.o.dst) (e := t.o.dst) hi.dd]
  have : (S.over t.W t.U).over s.W s.U = (S.over s.W s.U).over t.W t.U := by
    refine St.ext' rfl (fun j => ?_)
    simp only [St.over]
    by_cases hs : j ∈ s.W
    · rw [if_pos hs, if_neg (hi.ww j hs), if_pos hs]
    · rw [if_neg hs]
      by_cases ht : j ∈ t.W
      · rw [if_pos ht, if_pos ht]
      · rw [if_neg ht, if_neg ht, if_neg hs]
  rw [← this]; exact m2
inductive Chain (P : Program) (base : Nat) : List DS → AF → St → AF → St → Prop
  | nil (a : AF) (S : St) : Chain P base [] a S a S
  | cons {s : DS} {l : List DS} {a a1 a2 : AF} {S S1 S2 : St} (h : DStep P base s a S a1 S1) (k : Chain P base l a1 S1 a2 S2) : Chain P base (s :: l) a S a2 S2
/-- A step is brought to the front, past all that it has nothing to do with. -/
theorem Chain.front {P : Program} {base : Nat} {x : DS} {l2 : List DS} : ∀ {l1 : List DS} {a a2 : AF} {S S2 : St}, (∀ s ∈ l1, Ind s x) → Chain P base (l1 ++ x :: l2) a S a2 S2 → Chain P base (x :: (l1 ++ l2)) a S a2 S2
  | [], _, _, _, _, _, h => h
  | s :: l1, a, a2, S, S2, hi, h => by
    cases h with
    | cons h1 h2 =>
      have := Chain.front (l1 := l1) (fun q hq => hi q (by simp [hq])) h2
      cases this with
      | cons k1 k2 =>
        obtain ⟨b, T, m1, m2⟩ := DStep.swap (hi s (by simp)) h1 k1
        exact .cons m1 (.cons m2 k2)
/-! ### what such a step says of the machine -/
theorem CallD.callR {P : Program} {f : FuncId} {args : List AV} {S : St} {F : List Nat} {r : AV} (h : CallD P f args S F r) : CallR P f args S fun r' S' => r' = r ∧ S' = S := by
  obtain ⟨args', q1, q2, q3, q4⟩ := h
  rcases q4 with q4 | ⟨rfl, q4⟩ | ⟨q4, q5⟩
  · exact .pure_gen q1 (only F S.g) only_sub S rfl (fun _ _ e => e) q2 q3 (.inl q4.rep) ⟨rfl, rfl⟩
  · exact .pure_gen q1 (only [] S.g) only_sub S rfl (fun _ _ e => e) q2 q3 (.inr ⟨q4, fun i k e => by simp [only] at e⟩) ⟨rfl, rfl⟩
  · exact .fresh_gen q5 (only F S.g) only_sub q2 q3 q4 ⟨rfl, rfl⟩
theorem dstep_sound {P : Program} {n : Nat} {ops : Array Oper} {base : Nat} {s : DS} {a : AF} {S : St} {a' : AF} {S' : St} (h : DStep P base s a S a' S') {o : Oper} (ho : ops[s.i]? = some o) (hc : cOper P n ops o = some s.o)
    {E : Env} {w : World} {act : Act} (hGm : Gam P E.H) (hS : Sim E S w) (hF : RepF E n a act) (hρ : E.ρ (base + s.i) = none) (hlt : base + s.i < S.n) {K : Act → World → Prop} {Q : Exit → Act → World → Prop}
    (hK : ∀ act' w' E', Sim E' S' w' → RepF E' n a' act' → Evo E S w E' S' w' → S.n ≤ S'.n → (∀ i, i < S.n → i ≠ base + s.i → E.ρ i = none → E'.ρ i = none) → K act' w') : wpOp P ops Q s.i K act w := by
  obtain ⟨hd, hdst, hgd, hor⟩ := cOper_inv hc
  unfold wpOp
  rw [ho]
  simp only
  cases h with
  | skip h hF' hW hv =>
    rw [gd_wanted hF hgd h]
    simp only [Bool.false_eq_true, if_false]
    rw [← hdst]
    exact hK _ _ E hS (hF.put (by rw [hdst]; exact hd) rep_undef) (.refl _ _ _) (Nat.le_refl _) (fun _ _ _ e => e)
  | call h G xs hcl f first cap hG hW hr =>
    rw [gd_wanted hF hgd h]
    simp only [if_true]
    left
    rcases hor with ⟨p, hp1, hp2⟩ | ⟨hp1, hop⟩
    · rw [hcl] at hp1
      cases hp1
      unfold ccl at hp2
      split at hp2
      · rename_i g ys ts hoo
        simp only [Option.bind_eq_some_iff, Option.map_eq_some_iff, Prod.mk.injEq] at hp2
        obtain ⟨G', hG', XS, hXS, rfl, rfl⟩ := hp2
        have rg := ofOperand_ok hF hG'
        rw [hG] at rg
        generalize hev : act.eval g = gv at rg
        cases rg with
        | clo _ _ _ fv cv hn hm hf hcc =>
          have hx := reps_operands hF hXS
          have hargs : Reps E (first ++ XS.map (·.ev a) ++ cap) (fv ++ ys.map act.eval ++ cv) := (Reps.append ⟨hn, hf⟩ hx).append ⟨hm, hcc⟩
          have hcr := hr.callR
          refine callOp_ok hd hcr hGm hS hF hargs ?_ (fun r S2 act' w' E' k1 k2 k3 k4 => ?_)
          · simp only [execOp, hoo, Sem.run_bind, run_resolve_func act.eval g ys ts o.type hev, Result.andThen_ok, invoke]
            exact run_callFunc hcr.1 _ _
          · obtain ⟨rfl, rfl⟩ := k1
            exact hK act' w' E' k2 (by rw [hdst]; exact k3) k4.evo k4.nle (fun i hi _ e => k4.low i hi e)
      · cases hp2
    · rw [hp1] at hcl; cases hcl
  | op h hcl bs hb out ho' hF' hv hW hW2 hU =>
    rw [gd_wanted hF hgd h]
    simp only [if_true]
    left
    rcases hor with ⟨p, hp1, hp2⟩ | ⟨hp1, hop⟩
    · rw [hcl] at hp1; cases hp1
    · have hrun : (ex s.o.op a).run S (base + s.i) = some (s.v, (S.setL (ex s.o.op a).F out.up).setO (base + s.i) out.nw) := by
        simp only [Eff.run, hb, ho', hv]
      have hok := cop_ok (P := P) (n := n) (o := o) hd hop hrun
      refine hok E w act hS hF hρ hlt _ _ fun act' w' E' k1 k2 k3 k4 => hK act' w' E' k1 (by rw [hdst]; exact k2) k3 (by rw [setO_n, setL_n]; exact Nat.le_refl _) (fun i _ hi e => k4.2 i hi e)
/-! ### all orders -/
/-- One operation is listed ahead of another one, in each order. -/
inductive Ord (ops : Array Oper) : Nat → Nat → Prop
  | here {i : Nat} {o : Oper} {e : Edge} (h : ops[i]? = some o) (he : e ∈ o.after) (hb : Region.binds .any e = true) : Ord ops i e.on
  | more {i j : Nat} {o : Oper} {e : Edge} (h : ops[i]? = some o) (he : e ∈ o.after) (hb : Region.binds .any e = true) (k : Ord ops e.on j) : Ord ops i j
def DownC (ops : Array Oper) (listed : Array Bool) : Prop := ∀ k o, listed.getD k false = true → ops[k]? = some o → ∀ e ∈ o.after, Region.binds .any e = true → listed.getD e.on false = true
theorem Ord.listed {ops : Array Oper} {listed : Array Bool} (hd : DownC ops listed) {i j : Nat} (h : Ord ops i j) : ∀ o, ops[i]? = some o → (∀ e ∈ o.after, Region.binds .any e = true → listed.getD e.on false = true) → listed.getD j false = true := by
  induction h with
  | here h he hb => intro o' h' ha; rw [h] at h'; cases h'; exact ha _ he hb
  | more h he hb k ih =>
    intro o' h' ha; rw [h] at h'; cases h'
    have hl := ha _ he hb
    cases k with
    | here h2 he2 hb2 => exact ih _ h2 (fun e he hb => hd _ _ hl h2 e he hb)
    | more h2 he2 hb2 k2 => exact ih _ h2 (fun e he hb => hd _ _ hl h2 e he hb)
def bitsOf (ms : List Nat) : List Edge → Nat
  | [] => 0
  | e :: es => if Region.binds .any e = true then ((1 <<< e.on) ||| ms.getD e.on 0) ||| bitsOf ms es else bitsOf ms es
def maskOf (ms : List Nat) (o : Oper) : Nat := bitsOf ms o.after.toList
def MasksOk (ops : Array Oper) (ms : List Nat) : Prop := ∀ i j, (ms.getD i 0).testBit j = true → Ord ops i j
theorem bitsOf_ok {ops : Array Oper} {ms : List Nat} (hm : MasksOk ops ms) {i : Nat} {o : Oper} (ho : ops[i]? = some o) : ∀ (es : List Edge), (∀ e ∈ es, e ∈ o.after) → ∀ j, (bitsOf ms es).testBit j = true → Ord ops i j
  | [], _, j, h => by simp [bitsOf] at h
  | e :: es, hs, j, h => by
    simp only [bitsOf] at h
    split at h
    · rename_i hb
      simp only [Nat.testBit_or, Bool.or_eq_true] at h
      rcases h with (h | h) | h
      · have : e.on = j := by
          rw [Nat.one_shiftLeft, Nat.testBit_two_pow] at h
          simpa using h
        subst this
        exact .here ho (hs e (by simp)) hb
      · exact .more ho (hs e (by simp)) hb (hm _ _ h)
      · exact bitsOf_ok hm ho es (fun e he => hs e (by simp [he])) j h
    · exact bitsOf_ok hm ho es (fun e he => hs e (by simp [he])) j h
theorem maskOf_ok {ops : Array Oper} {ms : List Nat} (hm : MasksOk ops ms) {i : Nat} {o : Oper} (ho : ops[i]? = some o) (j : Nat) (h : (maskOf ms o).testBit j = true) : Ord ops i j :=
  bitsOf_ok hm ho _ (fun e he => by simpa using he) j h
theorem MasksOk.push {ops : Array Oper} {ms : List Nat} (hm : MasksOk ops ms) {o : Oper} (ho : ops[ms.length]? = some o) : MasksOk ops (ms ++ [maskOf ms o]) := by
  intro i j h
  by_cases hi : i < ms.length
  · refine hm i j ?_
    simpa [List.getD_eq_getElem?_getD, List.getElem?_append_left hi] using h
  · by_cases h2 : i = ms.length
    · subst h2
      refine maskOf_ok hm ho j ?_
      simpa [List.getD_eq_getElem?_getD] using h
    · rw [List.getD_eq_getElem?_getD, List.getElem?_eq_none (by simp; omega)] at h
      simp at h
theorem mem_ready {ops : Array Oper} {listed : Array Bool} {i : Nat} : i ∈ Region.ready .any ops listed ↔ i < ops.size ∧ listed.getD i true = false ∧ ∃ o, ops[i]? = some o ∧ ∀ e ∈ o.after, Region.binds .any e = true → listed.getD e.on false = true := by
  simp only [Region.ready, List.mem_filter, List.mem_range, Bool.and_eq_true, Bool.not_eq_true']
  constructor
  · rintro ⟨h1, h2, h3⟩
    refine ⟨h1, h2, ?_⟩
    cases ho : ops[i]? with
    | none => rw [ho] at h3; simp at h3
    | some o =>
      rw [ho] at h3
      simp only [Option.map_some, Option.getD_some] at h3
      refine ⟨o, rfl, fun e he hb => ?_⟩
      have := (Array.all_eq_true'.mp h3) e he
      simpa [hb] using this
  · rintro ⟨h1, h2, o, ho, h3⟩
    refine ⟨h1, h2, ?_⟩
    rw [ho]
    simp only [Option.map_some, Option.getD_some]
    refine Array.all_eq_true'.mpr (fun e he => ?_)
    cases hb : Region.binds .any e with
    | false => simp
    | true => simp [h3 e he hb]
theorem mem_split {l : List DS} {x : DS} (h : x ∈ l) : ∃ l1 l2, l = l1 ++ x :: l2 := List.append_of_mem h
theorem draw_any {P : Program} {n : Nat} {ops : Array Oper} {base : Nat} {Q : Exit → AF → St → Prop} {E0 : Env} {S0 : St} {w0 : World} (hG0 : Gam P E0.H) (hb : S0.n ≤ base)
    (hon : ∀ (i : Nat) o, ops[i]? = some o → ∀ e ∈ o.after, Region.binds .any e = true → e.on < i) :
    ∀ (fuel : Nat) (R : List DS) (listed : Array Bool) (a : AF) (S : St) (a2 : AF) (S2 : St), R.length = fuel → Chain P base R a S a2 S2 → Q .normal a2 S2 → R.Pairwise (fun s t => s.i < t.i) →
      (∀ i, i < ops.size → (listed.getD i true = false ↔ ∃ s ∈ R, s.i = i)) → (∀ s ∈ R, s.i < ops.size) → listed.size = ops.size → DownC ops listed →
      (∀ s ∈ R, ∃ o, ops[s.i]? = some o ∧ cOper P n ops o = some s.o) → (∀ s ∈ R, ∀ t ∈ R, s.i < t.i → Ord ops t.i s.i ∨ Ind s t) →
      ∀ E w act, Sim E S w → RepF E n a act → (∀ s ∈ R, E.ρ (base + s.i) = none ∧ base + s.i < S.n) → Ev E0 S0 w0 E S w → wpAny P .any ops (Post E0 S0 w0 n Q) fuel listed act w
  | 0, R, listed, a, S, a2, S2, hlen, hch, hq, _, hmem, _, _, _, _, _, E, w, act, hS, hF, _, hE => by
    have : R = [] := List.eq_nil_of_length_eq_zero hlen
    subst this
    cases hch
    refine ⟨?_, a, S, E, hq, hS, hF, hE⟩
    refine List.eq_nil_iff_forall_not_mem.mpr (fun i hi => ?_)
    obtain ⟨h1, h2, _⟩ := mem_ready.mp hi
    obtain ⟨s, hs, _⟩ := (hmem i h1).mp h2
    simp at hs
  | fuel + 1, R, listed, a, S, a2, S2, hlen, hch, hq, hsort, hmem, hlt, hsz, hdown, hops, hind, E, w, act, hS, hF, hr, hE => by
    refine ⟨fun hnil => ?_, fun i hi => ?_⟩
    · -- something is ready: the first that is left
      cases R with
      | nil => simp at hlen
      | cons s R =>
        exfalso
        have hmemr : s.i ∈ Region.ready .any ops listed := by
          obtain ⟨o, ho, _⟩ := hops s (by simp)
          have hsi := hlt s (by simp)
          refine mem_ready.mpr ⟨hsi, (hmem s.i hsi).mpr ⟨s, by simp, rfl⟩, o, ho, fun e he hbn => ?_⟩
          have hlt2 := hon _ o ho e he hbn
          cases hl : listed.getD e.on false with
          | true => rfl
          | false =>
            have hl2 : listed.getD e.on true = false := by
              simp only [Array.getD_eq_getD_getElem?] at hl ⊢
              rw [Array.getElem?_eq_getElem (by omega)] at hl ⊢
              exact hl
            obtain ⟨s', hs', e'⟩ := (hmem e.on (by omega)).mp hl2
            rcases List.mem_cons.mp hs' with rfl | h3
            · omega
            · have := List.rel_of_pairwise_cons hsort h3
              omega
        rw [hnil] at hmemr; simp at hmemr
    · obtain ⟨h1, h2, o, ho, hpre⟩ := mem_ready.mp hi
      obtain ⟨s, hs, rfl⟩ := (hmem i h1).mp h2
      obtain ⟨l1, l2, rfl⟩ := mem_split hs
      have hind1 : ∀ q ∈ l1, Ind q s := by
        intro q hq'
        have hqi : q.i < s.i := by
          have := List.pairwise_append.mp hsort
          exact this.2.2 q hq' s (by simp)
        rcases hind q (by simp [hq']) s (by simp) hqi with h3 | h3
        · exfalso
          have h4 := h3.listed hdown o ho hpre
          have h5 := (hmem q.i (hlt q (by simp [hq']))).mpr ⟨q, by simp [hq'], rfl⟩
          simp only [Array.getD_eq_getD_getElem?] at h4 h5
          rw [Array.getElem?_eq_getElem (by have := hlt q (by simp [hq']); omega)] at h4 h5
          simp at h4 h5
          rw [h4] at h5; cases h5
        · exact h3
      have hfr := Chain.front hind1 hch
      cases hfr with
      | cons d1 d2 =>
        obtain ⟨o', ho', hco⟩ := hops s (by simp)
        obtain ⟨r1, r2⟩ := hr s (by simp)
        have hsort2 : (l1 ++ l2).Pairwise (fun s t => s.i < t.i) := by
          have h6 := List.pairwise_append.mp hsort
          refine List.pairwise_append.mpr ⟨h6.1, (List.pairwise_cons.mp h6.2.1).2, fun x hx y hy => h6.2.2 x hx y (by simp [hy])⟩
        have hne : ∀ q ∈ l1 ++ l2, q.i ≠ s.i := by
          intro q hq'
          have h6 := List.pairwise_append.mp hsort
          rcases List.mem_append.mp hq' with h7 | h7
          · have := h6.2.2 q h7 s (by simp); omega
          · have := (List.pairwise_cons.mp h6.2.1).1 q h7; omega
        have hsub : ∀ q ∈ l1 ++ l2, q ∈ l1 ++ s :: l2 := by
          intro q hq'; rcases List.mem_append.mp hq' with h7 | h7 <;> simp [h7]
        refine dstep_sound d1 ho' hco (hG0.le hE.evo.le) hS hF r1 r2 fun act' w' E' k1 k2 k3 k4 k5 => ?_
        refine draw_any hG0 hb hon fuel (l1 ++ l2) (listed.setIfInBounds s.i true) _ _ a2 S2 (by simp at hlen ⊢; omega) d2 hq hsort2 ?_ (fun q hq' => hlt q (hsub q hq')) (by simpa using hsz) ?_ (fun q hq' => hops q (hsub q hq'))
          (fun q hq' t ht => hind q (hsub q hq') t (hsub t ht)) E' w' act' k1 k2 (fun q hq' => ?_) ⟨hE.evo.trans k3, by have := hE.nle; omega, fun id hid e => k5 id (by have := hE.nle; omega) (by omega) (hE.low id hid e)⟩
        · intro j hj
          simp only [Array.getD_eq_getD_getElem?, Array.getElem?_setIfInBounds]
          by_cases hjs : s.i = j
          · subst hjs
            rw [if_pos rfl, if_pos (by omega)]
            simp only [Option.getD_some, Bool.true_eq_false, false_iff, not_exists, not_and]
            exact fun q hq' => hne q hq'
          · rw [if_neg hjs]
            have := hmem j hj
            simp only [Array.getD_eq_getD_getElem?] at this
            rw [this]
            constructor
            · rintro ⟨q, hq', e⟩
              refine ⟨q, ?_, e⟩
              rcases List.mem_append.mp hq' with h7 | h7
              · simp [h7]
              · rcases List.mem_cons.mp h7 with rfl | h8
                · exact (hjs e).elim
                · simp [h8]
            · rintro ⟨q, hq', e⟩; exact ⟨q, hsub q hq', e⟩
        · intro k o2 hk ho2 e he hbn
          simp only [Array.getD_eq_getD_getElem?, Array.getElem?_setIfInBounds] at hk ⊢
          by_cases hks : s.i = k
          · subst hks
            rw [ho] at ho2; cases ho2
            have h8 := hpre e he hbn
            simp only [Array.getD_eq_getD_getElem?] at h8
            split
            · rw [if_pos (by omega)]; rfl
            · exact h8
          · rw [if_neg hks] at hk
            have h8 := hdown k o2 (by simpa [Array.getD_eq_getD_getElem?] using hk) ho2 e he hbn
            simp only [Array.getD_eq_getD_getElem?] at h8
            split
            · rename_i h9
              split
              · rfl
              · rw [← h9, Array.getElem?_eq_none (by omega)] at h8; simp at h8
            · exact h8
        · obtain ⟨q1, q2⟩ := hr q (hsub q hq')
          exact ⟨k5 _ q2 (by have := hne q hq'; omega) q1, by omega⟩
/-! ### a region that draws its order, gone through in the text's -/
def mayW : AOp → Bool
  | .box _ _ | .alloc _ _ | .store _ _ _ | .app _ _ _ _ | .mks _ _ _ _ _ | .mmk | .mset _ _ _ _ | .clr _ _ _ | .cpy _ _ _ | .appz _ _ _ _ _ => true
  | _ => false
theorem quiet_val {x : Option AV} {bs : List Blk} {out : Out} (h : (Eff.val x).k bs = some out) : out.up = [] ∧ out.nw = none := by
  simp only [Eff.val, Option.map_eq_some_iff] at h; obtain ⟨_, _, rfl⟩ := h; exact ⟨rfl, rfl⟩
theorem quiet_rd {id : Nat} {k : Blk → Option AV} {bs : List Blk} {out : Out} (h : (Eff.rd id k).k bs = some out) : out.up = [] ∧ out.nw = none := by
  simp only [Eff.rd] at h
  split at h
  · simp only [Option.map_eq_some_iff] at h; obtain ⟨_, _, rfl⟩ := h; exact ⟨rfl, rfl⟩
  · cases h
theorem quiet_op {op : AOp} (hq : mayW op = false) {a : AF} {bs : List Blk} {out : Out} (h : (ex op a).k bs = some out) : out.up = [] ∧ out.nw = none := by
  cases op <;> simp only [mayW, Bool.true_eq_false] at hq <;> simp only [ex] at h
  case load k p =>
    unfold exLoad at h
    split at h
    · exact quiet_val h
    · exact quiet_rd h
    · exact quiet_val h
  case idxA es x i =>
    unfold exIdxA at h
    split at h
    · exact quiet_val h
    · exact quiet_rd h
    · exact quiet_val h
  case slc es x lo hi =>
    unfold exSlc at h
    split at h
    · exact quiet_val h
    · exact quiet_rd h
    · exact quiet_val h
  case look d z ok m k =>
    unfold exLook at h
    split at h
    · exact quiet_rd h
    · exact quiet_val h
  case lenM x =>
    unfold exLenM at h
    split at h
    · exact quiet_rd h
    · exact quiet_val h
  all_goals exact quiet_val h
/-- Slots that have nothing to do with one another. -/
def slotsB (s t : AOper) : Bool :=
  (match s.dst with | some d => !t.rds.contains d && t.dst != some d | none => true) && (match t.dst with | some d => !s.rds.contains d | none => true)
theorem slotsB_ok {s t : AOper} (h : slotsB s t = true) : (∀ d, s.dst = some d → d ∉ t.rds) ∧ (∀ d, t.dst = some d → d ∉ s.rds) ∧ (∀ d, s.dst = some d → t.dst ≠ some d) := by
  simp only [slotsB, Bool.and_eq_true] at h
  obtain ⟨h1, h2⟩ := h
  refine ⟨fun d e => ?_, fun d e => ?_, fun d e => ?_⟩
  · rw [e] at h1; simp at h1; exact h1.1
  · rw [e] at h2; simp at h2; exact h2
  · rw [e] at h1; simp at h1; exact h1.2
def quietB (o : AOper) : Bool := o.call.isSome || !mayW o.op
def Eff.runT (e : Eff) (S : St) (nid : Nat) : Option (AV × St × List Nat × List Nat) :=
  match e.F.mapM S.g with
  | none => none
  | some bs => match e.k bs with
    | none => none
    | some o => some (o.v nid, (S.setL e.F o.up).setO nid o.nw, e.F, (match o.up with | [] => [] | _ => e.F) ++ (match o.nw with | some _ => [nid] | none => []))
/-- What two steps look at and write is apart. -/
def Dis (p : List Nat × List Nat) (F W : List Nat) : Prop := (∀ j ∈ p.2, j ∉ F) ∧ (∀ j ∈ W, j ∉ p.1) ∧ ∀ j ∈ p.2, j ∉ W
def Apt : List Bool → List (List Nat × List Nat) → List Nat → List Nat → Prop
  | true :: bs, p :: T, F, W => Dis p F W ∧ Apt bs T F W
  | false :: bs, _ :: T, F, W => Apt bs T F W
  | _, _, _, _ => True
theorem Apt.at_ {F W : List Nat} : ∀ {bs : List Bool} {T : List (List Nat × List Nat)}, Apt bs T F W → ∀ (j : Nat) (p : List Nat × List Nat), bs[j]? = some true → T[j]? = some p → Dis p F W
  | [], _, _, j, p, h, _ => by simp at h
  | _ :: _, [], _, j, p, _, h => by simp at h
  | true :: bs, q :: T, h, 0, p, _, hp => by simp at hp; subst hp; exact h.1
  | false :: bs, q :: T, h, 0, p, hb, _ => by simp at hb
  | true :: bs, q :: T, h, j + 1, p, hb, hp => Apt.at_ (bs := bs) (T := T) h.2 j p (by simpa using hb) (by simpa using hp)
  | false :: bs, q :: T, h, j + 1, p, hb, hp => Apt.at_ (bs := bs) (T := T) h j p (by simpa using hb) (by simpa using hp)
def psh (fr : List (List Bool)) (T : List (List Nat × List Nat)) (F W : List Nat) : List (List Nat × List Nat) :=
  match fr with
  | [] => T
  | _ => (F, W) :: T
/-- Does each pair of operations that no edge orders have slots of its own; does neither write, or is it told? -/
def pairsOk (m : Nat) (t : AOper) : List Bool → List (Nat × AOper) → Bool
  | _, [] => true
  | fr, (j, s) :: prev => (m.testBit j || (slotsB s t && ((quietB s && quietB t) || fr.headD false))) && pairsOk m t fr.tail prev
def drawGo : List Oper → List AOper → List (List Bool) → List (Nat × AOper) → List Nat → Nat → Bool
  | o :: ops, s :: os, fr, prev, ms, i =>
    o.after.toList.all (fun e => !Region.binds .any e || decide (e.on < i)) && pairsOk (maskOf ms o) s (fr.headD []) prev && drawGo ops os fr.tail ((i, s) :: prev) (ms ++ [maskOf ms o]) (i + 1)
  | [], [], _, _, _, _ => true
  | _, _, _, _, _, _ => false
def drawOk (ops : Array Oper) (os : List AOper) (fr : List (List Bool)) : Bool := drawGo ops.toList os fr [] [] 0
def RD (P : Program) (base : Nat) : List AOper → List (List Bool) → Nat → List (List Nat × List Nat) → (AF → St → Prop) → AF → St → Prop
  | [], _, _, _, K, a, S => K a S
  | o :: os, fr, i, T, K, a, S =>
    match gd o a with
    | none => False
    | some false => RD P base os fr.tail (i + 1) (psh fr T [] []) K (a.put o.dst (.tup [])) S
    | some true => match o.call with
      | some (G, xs) => match G.ev a with
        | .clo f first cap => ∃ r F, CallD P f (first ++ xs.map (·.ev a) ++ cap) S F r ∧ Apt (fr.headD []) T F [] ∧ RD P base os fr.tail (i + 1) (psh fr T F []) K (a.put o.dst r) S
        | _ => False
      | none => match (ex o.op a).runT S (base + i) with
        | some (v, S', F, W) => Apt (fr.headD []) T F W ∧ RD P base os fr.tail (i + 1) (psh fr T F W) K (a.put o.dst v) S'
        | none => False
theorem runT_inv {e : Eff} {S : St} {nid : Nat} {v : AV} {S' : St} {F W : List Nat} (h : e.runT S nid = some (v, S', F, W)) :
    ∃ bs out, e.F.mapM S.g = some bs ∧ e.k bs = some out ∧ v = out.v nid ∧ S' = (S.setL e.F out.up).setO nid out.nw ∧ F = e.F ∧ W = (if out.up = [] then [] else e.F) ++ (if out.nw.isSome = true then [nid] else []) := by
  unfold Eff.runT at h
  split at h
  · cases h
  · rename_i bs hbs
    split at h
    · cases h
    · rename_i out hout
      simp only [Option.some.injEq, Prod.mk.injEq] at h
      obtain ⟨rfl, rfl, rfl, rfl⟩ := h
      refine ⟨bs, out, hbs, hout, rfl, rfl, rfl, ?_⟩
      cases out.up <;> cases out.nw <;> simp
theorem rd_chain {P : Program} {base : Nat} {K : AF → St → Prop} : ∀ (os : List AOper) (fr : List (List Bool)) (i : Nat) (T : List (List Nat × List Nat)) (a : AF) (S : St), RD P base os fr i T K a S →
    ∃ l a2 S2, Chain P base l a S a2 S2 ∧ K a2 S2 ∧ l.map (·.o) = os ∧ l.map (·.i) = List.range' i os.length ∧ (∀ s ∈ l, quietB s.o = true → s.W = []) ∧
      ∀ (k : Nat) (hk : k < l.length) (j : Nat) (p : List Nat × List Nat), (fr.getD k [])[j]? = some true → ((l.take k).reverse.map (fun s => (s.F, s.W)) ++ T)[j]? = some p → Dis p (l[k]).F (l[k]).W
  | [], fr, i, T, a, S, h => ⟨[], a, S, .nil a S, h, rfl, rfl, by simp, by simp⟩
  | o :: os, fr, i, T, a, S, h => by
    simp only [RD] at h
    have fin : ∀ (s : DS) (a1 : AF) (S1 : St), s.o = o → s.i = i → (quietB s.o = true → s.W = []) → DStep P base s a S a1 S1 → Apt (fr.headD []) T s.F s.W → RD P base os fr.tail (i + 1) (psh fr T s.F s.W) K a1 S1 →
        ∃ l a2 S2, Chain P base l a S a2 S2 ∧ K a2 S2 ∧ l.map (·.o) = o :: os ∧ l.map (·.i) = List.range' i (os.length + 1) ∧ (∀ s ∈ l, quietB s.o = true → s.W = []) ∧
          ∀ (k : Nat) (hk : k < l.length) (j : Nat) (p : List Nat × List Nat), (fr.getD k [])[j]? = some true → ((l.take k).reverse.map (fun s => (s.F, s.W)) ++ T)[j]? = some p → Dis p (l[k]).F (l[k]).W := by
      intro s a1 S1 h1 h2 h3 h4 hA h5
      obtain ⟨l, a2, S2, k1, k2, k3, k4, k5, k6⟩ := rd_chain os fr.tail (i + 1) _ a1 S1 h5
      refine ⟨s :: l, a2, S2, .cons h4 k1, k2, by simp [h1, k3], by simp [h2, k4, List.range'_succ], ?_, ?_⟩
      · intro q hq
        rcases List.mem_cons.mp hq with rfl | hq
        · exact h3
        · exact k5 q hq
      · intro k hk j p hj hp
        cases k with
        | zero =>
          have hj' : (fr.headD [])[j]? = some true := by cases fr with | nil => simp at hj | cons a l => simpa using hj
          exact hA.at_ j p hj' (by simpa using hp)
        | succ k =>
          cases fr with
          | nil => simp at hj
          | cons b fr =>
            refine k6 k (by simpa using hk) j p (by simpa using hj) ?_
            simpa [psh, List.append_assoc] using hp
    split at h
    · exact h.elim
    · rename_i hg
      exact fin ⟨i, o, [], [], fun _ => none, .tup []⟩ _ _ rfl rfl (fun _ => rfl) (.skip hg rfl rfl rfl) (by
        generalize fr.headD [] = bs
        clear fin h
        induction bs generalizing T with
        | nil => simp [Apt]
        | cons b bs ih => cases T <;> cases b <;> simp [Apt, Dis, ih]) h
    · rename_i hg
      split at h
      · rename_i G xs hc
        split at h
        · rename_i f first cap hG
          obtain ⟨r, F, hr, hA, h2⟩ := h
          exact fin ⟨i, o, F, [], fun _ => none, r⟩ _ _ rfl rfl (fun _ => rfl) (.call hg G xs hc f first cap hG rfl hr) hA h2
        · exact h.elim
      · rename_i hc
        split at h
        · rename_i v S' F W hrun
          obtain ⟨bs, out, hbs, hout, rfl, rfl, rfl, rfl⟩ := runT_inv hrun
          refine fin ⟨i, o, (ex o.op a).F, _, ((S.setL (ex o.op a).F out.up).setO (base + i) out.nw).g, out.v (base + i)⟩ _ _ rfl rfl ?_ (.op hg hc bs hbs out hout rfl rfl ?_ ?_ (fun _ _ => rfl)) h.1 h.2
          · intro hq
            simp only [quietB, hc, Option.isSome_none, Bool.false_or, Bool.not_eq_true'] at hq
            obtain ⟨q1, q2⟩ := quiet_op hq hout
            simp [q1, q2]
          · refine ⟨fun h1 j hj => ?_, fun h1 => ?_⟩
            · simp only [List.mem_append]; left; rw [if_neg h1]; exact hj
            · simp only [List.mem_append]; right; rw [if_pos h1]; simp
          · intro j hj
            simp only [List.mem_append] at hj
            rcases hj with hj | hj
            · split at hj
              · simp at hj
              · rename_i h1; exact .inl ⟨h1, hj⟩
            · split at hj
              · rename_i h1; simp at hj; exact .inr ⟨h1, hj⟩
              · simp at hj
        · exact h.elim
theorem pairsOk_at {m : Nat} {t : AOper} : ∀ {fr : List Bool} {prev : List (Nat × AOper)}, pairsOk m t fr prev = true → ∀ (k j : Nat) (s : AOper), prev[k]? = some (j, s) →
    m.testBit j = true ∨ (slotsB s t = true ∧ ((quietB s = true ∧ quietB t = true) ∨ fr[k]? = some true))
  | fr, [], _, k, j, s, h => by simp at h
  | fr, (j', s') :: prev, h, k, j, s, hk => by
    simp only [pairsOk, Bool.and_eq_true] at h
    cases k with
    | zero =>
      simp only [List.getElem?_cons_zero, Option.some.injEq, Prod.mk.injEq] at hk
      obtain ⟨rfl, rfl⟩ := hk
      have h1 := h.1
      simp only [Bool.or_eq_true, Bool.and_eq_true] at h1
      rcases h1 with h1 | ⟨h1, h2 | h2⟩
      · exact .inl h1
      · exact .inr ⟨h1, .inl h2⟩
      · exact .inr ⟨h1, .inr (by cases fr <;> simp_all)⟩
    | succ k =>
      rcases pairsOk_at h.2 k j s (by simpa using hk) with h1 | ⟨h1, h2 | h2⟩
      · exact .inl h1
      · exact .inr ⟨h1, .inl h2⟩
      · exact .inr ⟨h1, .inr (by cases fr <;> simp_all)⟩
theorem drawGo_inv {ops : Array Oper} {os : List AOper} {fr : List (List Bool)} : ∀ (n i : Nat) (prev : List (Nat × AOper)) (ms : List Nat), n = ops.size - i → i ≤ ops.size → i ≤ os.length → ms.length = i → MasksOk ops ms → prev.length = i →
    (∀ k, k < i → prev[i - 1 - k]? = (os[k]?).map fun s => (k, s)) → drawGo (ops.toList.drop i) (os.drop i) (fr.drop i) prev ms i = true →
    (∀ (t : Nat) o, i ≤ t → ops[t]? = some o → ∀ e ∈ o.after, Region.binds .any e = true → e.on < t) ∧
    ∀ t j, i ≤ t → t < ops.size → j < t → Ord ops t j ∨ ∀ s u, os[j]? = some s → os[t]? = some u → slotsB s u = true ∧ ((quietB s = true ∧ quietB u = true) ∨ (fr.getD t [])[t - 1 - j]? = some true)
  | 0, i, prev, ms, hn, hi, _, _, _, _, _, _ => by
    refine ⟨fun t o h1 h2 => ?_, fun t j h1 h2 => by omega⟩
    have := (Array.getElem?_eq_some_iff.mp h2).1
    omega
  | n + 1, i, prev, ms, hn, hi, hil, hms, hmo, hpl, hprev, h => by
    have hlt : i < ops.size := by omega
    have ho : ops[i]? = some ops[i] := Array.getElem?_eq_getElem hlt
    have hdo : ops.toList.drop i = ops[i] :: ops.toList.drop (i + 1) := by
      rw [List.drop_eq_getElem_cons (by simpa using hlt)]; simp
    rw [hdo] at h
    cases hd : os.drop i with
    | nil => rw [hd] at h; simp [drawGo] at h
    | cons s os' =>
      have hil2 : i < os.length := by
        have := congrArg List.length hd
        simp at this; omega
      have hos : os[i]? = some s := by
        rw [List.drop_eq_getElem_cons hil2] at hd
        simp only [List.cons.injEq] at hd
        rw [List.getElem?_eq_getElem hil2, hd.1]
      have hos' : os.drop (i + 1) = os' := by
        rw [List.drop_eq_getElem_cons hil2] at hd
        simp only [List.cons.injEq] at hd
        exact hd.2
      rw [hd] at h
      simp only [drawGo, Bool.and_eq_true] at h
      obtain ⟨⟨h1, h2⟩, h3⟩ := h
      have ih := drawGo_inv (fr := fr) (os := os) n (i + 1) ((i, s) :: prev) (ms ++ [maskOf ms ops[i]]) (by omega) (by omega) (by omega) (by simp [hms]) (hmo.push (by rw [hms]; exact ho)) (by simp [hpl]) (by
        intro k hk
        by_cases hki : k = i
        · subst hki; simp [hos]
        · have : i + 1 - 1 - k = (i - 1 - k) + 1 := by omega
          rw [this, List.getElem?_cons_succ]; exact hprev k (by omega)) (by rw [hos']; simpa [List.tail_drop] using h3)
      refine ⟨fun t o ht hto e he hb => ?_, fun t j ht htl hj => ?_⟩
      · by_cases hti : t = i
        · subst hti
          rw [ho] at hto; cases hto
          have := (List.all_eq_true.mp h1) e (by simpa using he)
          simpa [hb] using this
        · exact ih.1 t o (by omega) hto e he hb
      · by_cases hti : t = i
        · subst hti
          have hjl : j < os.length := by omega
          have hp := hprev j hj
          rw [List.getElem?_eq_getElem hjl] at hp
          rcases pairsOk_at h2 _ _ _ hp with h4 | h4
          · exact .inl (maskOf_ok hmo ho j h4)
          · refine .inr (fun s' u hs' hu => ?_)
            rw [List.getElem?_eq_getElem hjl] at hs'; cases hs'
            rw [hos] at hu; cases hu
            have hfr : (fr.drop t).headD [] = fr.getD t [] := by simp [List.getD_eq_getElem?_getD, List.headD_eq_head?_getD, List.head?_drop]
            rw [hfr] at h4
            exact h4
        · exact ih.2 t j (by omega) htl hj
theorem drawOk_inv {ops : Array Oper} {os : List AOper} {fr : List (List Bool)} (h : drawOk ops os fr = true) :
    (∀ (i : Nat) o, ops[i]? = some o → ∀ e ∈ o.after, Region.binds .any e = true → e.on < i) ∧
    ∀ i j, i < ops.size → j < i → Ord ops i j ∨ ∀ s t, os[j]? = some s → os[i]? = some t → slotsB s t = true ∧ ((quietB s = true ∧ quietB t = true) ∨ (fr.getD i [])[i - 1 - j]? = some true) := by
  obtain ⟨h1, h2⟩ := drawGo_inv (ops := ops) (os := os) (fr := fr) ops.size 0 [] [] (by omega) (by omega) (by omega) rfl (fun i j h => by simp at h) rfl (by intro k hk; omega) (by rw [drawOk] at h; simpa using h)
  exact ⟨fun i o => h1 i o (Nat.zero_le _), fun i j => h2 i j (Nat.zero_le _)⟩
theorem draw_sound {P : Program} {n : Nat} {ops : Array Oper} {os : List AOper} {fr : List (List Bool)} {id : Nat} {Q : Exit → AF → St → Prop} (hm : P.follows .mixedOrders = true) (hc : ops.toList.mapM (cOper P n ops) = some os) (hok : drawOk ops os fr = true)
    (hget : os.length = ops.size ∧ ∀ k (hk : k < os.length), ∃ o, ops[k]? = some o ∧ cOper P n ops o = some (os[k])) {a : AF} {S : St}
    (h : RD P S.n os fr 0 [] (fun a S => Q .normal a S) a ⟨S.n + os.length, S.g⟩) {E : Env} {w : World} {act : Act} (hG : Gam P E.H) (hS : Sim E S w) (hF : RepF E n a act) : (Code.region id ops true).wp P (Post E S w n Q) act w := by
  obtain ⟨hlen, hg⟩ := hget
  obtain ⟨h1, h2⟩ := drawOk_inv hok
  obtain ⟨l, a2, S2, k1, k2, k3, k4, k5, k6⟩ := rd_chain os fr 0 [] a _ h
  have hll : l.length = os.length := by rw [← k3]; simp
  have hi : ∀ k (hk : k < l.length), (l[k]).i = k := by
    intro k hk
    have h5 : (l.map (·.i))[k]'(by simpa using hk) = (List.range' 0 os.length)[k]'(by simp; omega) := by simp only [k4]
    simpa using h5
  have ho : ∀ k (hk : k < l.length), (l[k]).o = os[k]'(by omega) := by
    intro k hk
    have h5 : (l.map (·.o))[k]'(by simpa using hk) = os[k]'(by omega) := by simp only [k3]
    simpa using h5
  have hmem : ∀ s ∈ l, ∃ k, ∃ hk : k < l.length, l[k] = s ∧ s.i = k := by
    intro s hs
    obtain ⟨k, hk, e⟩ := List.mem_iff_getElem.mp hs
    exact ⟨k, hk, e, by rw [← e]; exact hi k hk⟩
  refine wp_region_any hm ?_
  refine draw_any (S0 := S) (base := S.n) hG (Nat.le_refl _) h1 ops.size l (Array.replicate ops.size false) a _ a2 S2 (by omega) k1 k2 ?_ ?_ ?_ (by simp) ?_ ?_ ?_ E _ act ((hS.drop S.g (fun _ _ e => e) _ (by show S.n ≤ S.n + _; omega)).drew) hF ?_ ?_
  · have h6 : (l.map (·.i)).Pairwise (· < ·) := by rw [k4]; exact List.pairwise_lt_range'
    exact List.pairwise_map.mp h6
  · intro i hi'
    have : (Array.replicate ops.size false).getD i true = false := by simp [Array.getD_eq_getD_getElem?, hi']
    simp only [this, true_iff]
    exact ⟨l[i]'(by omega), List.getElem_mem _, hi i (by omega)⟩
  · intro s hs
    obtain ⟨k, hk, _, e⟩ := hmem s hs
    omega
  · intro k o hk
    simp only [Array.getD_eq_getD_getElem?] at hk
    by_cases hks : k < ops.size
    · simp [hks] at hk
    · simp [hks] at hk
  · intro s hs
    obtain ⟨k, hk, e1, e2⟩ := hmem s hs
    obtain ⟨o, q1, q2⟩ := hg k (by omega)
    refine ⟨o, by rw [e2]; exact q1, ?_⟩
    rw [← e1, ho k hk]; exact q2
  · intro s hs t ht hlt
    obtain ⟨k, hk, e1, e2⟩ := hmem s hs
    obtain ⟨m, hm', e3, e4⟩ := hmem t ht
    rcases h2 t.i s.i (by omega) hlt with h7 | h7
    · exact .inl h7
    · right
      obtain ⟨q1, q2⟩ := h7 s.o t.o (by rw [← e1, ho k hk, hi k hk]; exact List.getElem?_eq_getElem _) (by rw [← e3, ho m hm', hi m hm']; exact List.getElem?_eq_getElem _)
      obtain ⟨s1, s2, s3⟩ := slotsB_ok q1
      rcases q2 with ⟨q2, q3⟩ | q2
      · have w1 := k5 s hs q2
        have w2 := k5 t ht q3
        exact ⟨s1, s2, s3, by simp [w1], by simp [w2], by simp [w1]⟩
      · have hkm : k < m := by omega
        obtain ⟨d1, d2, d3⟩ := k6 m hm' (m - 1 - k) (s.F, s.W) (by rw [← e4, ← e2]; exact q2) (by
          rw [List.append_nil, List.getElem?_map, List.getElem?_reverse (by simp; omega)]
          have : (List.take m l).length - 1 - (m - 1 - k) = k := by simp; omega
          rw [this, List.getElem?_take, if_pos hkm, List.getElem?_eq_getElem hk, e1]; rfl)
        rw [e3] at d1 d2 d3
        exact ⟨s1, s2, s3, d1, d2, d3⟩
  · intro s hs
    obtain ⟨k, hk, e1, e2⟩ := hmem s hs
    exact ⟨hS.fresh _ (by omega), by show S.n + s.i < S.n + os.length; omega⟩
  · exact ⟨⟨rfl, rfl, rfl, Nat.le_refl _, fun _ _ _ => rfl, fun id l k hk hl => .inr ⟨id, l, k, hk, hl, rfl⟩, Env.le_refl _, fun _ _ e => .inl e⟩, by show S.n ≤ S.n + _; omega, fun _ _ e => e⟩
end Go.Rf

