import Derived.Test.YtpinfihfbjkijaaDoorRfUse
/- Own work: functions whose results lie in cells. -/
set_option linter.unusedVariables false
set_option linter.unusedSimpArgs false
namespace Go.Rf
open Go.RowKit

inductive RV where
  | t (i : Nat)
  | c (i : Nat) (k : Option Nat)
def rvOf (P : Program) : ResultVar → Option RV
  | .tmp t => some (.t t)
  | .cell a t => (kindOf P t).map (.c a)
def ldC (k : Option Nat) (g : Nat → Option Blk) : AV → Option AV
  | .ptr id ix c => match g id with
    | some (.arr _ xs) => (xs[ix]?).bind fun x => subc k x c
    | _ => none
  | _ => none
def RV.ev (a : AF) (g : Nat → Option Blk) : RV → Option AV
  | .t i => some (a i)
  | .c i k => ldC k g (a i)
def evC (a : AF) (g : Nat → Option Blk) : List RV → Option (List AV)
  | [] => some []
  | r :: rs => (r.ev a g).bind fun x => (evC a g rs).map (x :: ·)
def packC : List AV → AV
  | [x] => x
  | xs => .tup xs
def RetC (rs : List RV) (K : AV → St → Prop) : Exit → AF → St → Prop
  | .ret, a, S => ∃ xs, evC a S.g rs = some xs ∧ K (packC xs) S
  | .normal, a, S => ∃ xs, evC a S.g rs = some xs ∧ K (packC xs) S
  | _, _, _ => False
theorem run_ldC {P : Program} {E : Env} {S : St} {w : World} (hS : Sim E S w) {t : TypeId} {k : Option Nat} (hk : kindOf P t = some k) {p x : AV} {u : Value} (r : Rep E p u) (h : ldC k S.g p = some x) :
    ∃ val, (do loadVar t (← asAddr u) : Sem Value).run P w = .ok val w ∧ Rep E x val := by
  cases p <;> simp only [ldC] at h
  all_goals (try (cases h))
  rename_i id ix c
  cases r with
  | ptr _ _ _ l hl =>
    split at h
    · rename_i es xs hg
      cases hxi : xs[ix]? with
      | none => rw [hxi] at h; simp at h
      | some y =>
        rw [hxi] at h
        simp only [Option.bind_some] at h
        obtain ⟨l', e, hN, h2, h3, h4, h5, cs, el, h6, h7, h8⟩ := hS.live id _ hg
        rw [hl] at e; cases e
        obtain ⟨hixl, hye⟩ := List.getElem?_eq_some_iff.mp hxi
        have hfl := flat_at h4 ix hixl
        have hcells : ∀ j (hj : j < y.cells.length), ∃ u, cs[l.o + ix * l.es + j]? = some u ∧ Rep E (y.cells[j]) u := by
          intro j hj
          subst hye
          obtain ⟨hk', e⟩ := hfl j hj
          obtain ⟨u, a1, a2⟩ := h8 _ hk'
          rw [e] at a2
          refine ⟨u, ?_, a2⟩
          rw [h2, Nat.add_assoc]; exact a1
        have hat : ∀ z ∈ y.cells, z.atom = true := by
          intro z hz
          refine h5 z ?_
          simp only [flat, List.mem_flatMap]
          exact ⟨y, by rw [← hye]; exact List.getElem_mem hixl, hz⟩
        obtain ⟨val, h9, h10⟩ := run_loadVar (P := P) hk h h6 hat hcells
        exact ⟨val, by simp only [Sem.run_bind]; exact h9, h10⟩
    · cases h
theorem run_resultsC {P : Program} {fn : Func} {E : Env} {S : St} {w : World} (hS : Sim E S w) {n : Nat} {a : AF} {act : Act} (hF : RepF E n a act) {rs : List RV} (hr : fn.results.toList.mapM (rvOf P) = some rs) {xs : List AV} (hx : evC a S.g rs = some xs) :
    ∃ val, (results fn act.tmps).run P w = .ok val w ∧ Rep E (packC xs) val := by
  have hm : ∀ (l : List ResultVar) (rs : List RV) (xs : List AV), l.mapM (rvOf P) = some rs → evC a S.g rs = some xs → ∃ vals : List Value, (l.mapM (fun
      | .tmp t => pure (act.tmps.getD t undef)
      | .cell a t => do loadVar t (← asAddr (act.tmps.getD a undef)) : ResultVar → Sem Value)).run P w = .ok vals w ∧ vals.length = xs.length ∧ ∀ j (h : j < xs.length), Rep E (xs[j]) (vals.getD j undef) := by
    intro l
    induction l with
    | nil => intro rs xs h1 h2; simp at h1; subst h1; simp [evC] at h2; subst h2; exact ⟨[], rfl, rfl, by simp⟩
    | cons q l ih =>
      intro rs xs h1 h2
      simp only [List.mapM_cons, Option.bind_eq_bind, Option.bind_eq_some_iff, Option.pure_def, Option.some.injEq] at h1
      obtain ⟨y, hy, zs, hz, rfl⟩ := h1
      simp only [evC, Option.bind_eq_some_iff, Option.map_eq_some_iff] at h2
      obtain ⟨x, hx, us, hu, rfl⟩ := h2
      obtain ⟨vals, g1, g2, g3⟩ := ih _ _ hz hu
      have key : ∀ val, (match q with
          | .tmp t => pure (act.tmps.getD t undef)
          | .cell a t => do loadVar t (← asAddr (act.tmps.getD a undef)) : Sem Value).run P w = .ok val w → Rep E x val → ∃ vals : List Value, ((q :: l).mapM (fun
        | .tmp t => pure (act.tmps.getD t undef)
        | .cell a t => do loadVar t (← asAddr (act.tmps.getD a undef)) : ResultVar → Sem Value)).run P w = .ok vals w ∧ vals.length = (x :: us).length ∧ ∀ j (h : j < (x :: us).length), Rep E ((x :: us)[j]) (vals.getD j undef) := by
        intro val k1 k2
        refine ⟨val :: vals, ?_, by simp [g2], fun j hj => ?_⟩
        · simp only [List.mapM_cons, Sem.run_bind]
          rw [k1]
          simp only [Result.andThen_ok]
          rw [g1]
          rfl
        · cases j with
          | zero => simpa using k2
          | succ j => simpa using g3 j (by simpa using hj)
      cases q with
      | tmp t =>
        simp only [rvOf, Option.some.injEq] at hy
        subst hy
        simp only [RV.ev, Option.some.injEq] at hx
        subst hx
        exact key _ rfl (hF.at_ t)
      | cell c t =>
        simp only [rvOf, Option.map_eq_some_iff] at hy
        obtain ⟨k, hk, rfl⟩ := hy
        simp only [RV.ev] at hx
        obtain ⟨val, k1, k2⟩ := run_ldC hS hk (hF.at_ c) hx
        exact key val k1 k2
  obtain ⟨vals, g1, g2, g3⟩ := hm _ _ _ hr hx
  unfold results
  rw [Array.mapM_eq_mapM_toList, map_eq_pure_bind]
  simp only [Sem.run_bind]
  erw [g1]
  simp only [Result.andThen_ok]
  match xs, vals, g2 with
  | [], [], _ => exact ⟨_, rfl, .tup _ _ (by simp) (by simp)⟩
  | [x], [v], _ => exact ⟨v, rfl, by simpa [packC] using g3 0 (by simp)⟩
  | x :: y :: xs, v :: u :: vals, g2 =>
    refine ⟨.tuple (v :: u :: vals).toArray, ?_, ?_⟩
    · show Result.ok (if h : _ then _ else _) w = _
      rw [dif_neg (by simp)]
    · refine .tup _ _ (by simp at g2 ⊢; omega) (fun j hj => ?_)
      have := g3 j hj
      simpa [Array.getD_eq_getD_getElem?, List.getD_eq_getElem?_getD] using this
def IsC (P : Program) (f : FuncId) (ac : AC) (rs : List RV) (n : Nat) : Prop :=
  ∃ fn c, P.funcs[f]? = some fn ∧ (fn.name == "runtime.NumGoroutine") = false ∧ fn.body = some c ∧ comp P fn.ntmps c = some ac ∧ fn.results.toList.mapM (rvOf P) = some rs ∧ n ≤ fn.ntmps
theorem IsC.callR {P : Program} (hm : P.follows .mixedOrders = true) {f : FuncId} {ac : AC} {rs : List RV} {n : Nat} (h : IsC P f ac rs n) {args : List AV} (hn : args.length = n) {S : St} {K : AV → St → Prop}
    (hb : AW P ac (RetC rs K) (argF args) S) : CallR P f args S K := by
  obtain ⟨fn, c, hf, hnm, hbd, hc, hr, h6⟩ := h
  refine ⟨callable_of hf hnm hbd, fun E w vals hS hv => ?_⟩
  refine calls_of_wp hf hbd (wp_mono (aw_sound hm ac c hc _ _ _ hb E w _ hS (repF_args hv (by omega))) fun e act w' hp => ?_)
  obtain ⟨a, S', E', q, s, r, ev⟩ := hp
  cases e <;> simp only [RetC] at q
  · obtain ⟨xs, q1, q2⟩ := q
    obtain ⟨val, k1, k2⟩ := run_resultsC (P := P) (fn := fn) s r hr q1
    exact ⟨r.defers, _, k1, _, _, S', E', rfl, q2, s, k2, ev⟩
  · obtain ⟨xs, q1, q2⟩ := q
    obtain ⟨val, k1, k2⟩ := run_resultsC (P := P) (fn := fn) s r hr q1
    exact ⟨r.defers, _, k1, _, _, S', E', rfl, q2, s, k2, ev⟩
theorem IsC.pure {P : Program} (hm : P.follows .mixedOrders = true) {f : FuncId} {ac : AC} {rs : List RV} {n : Nat} (h : IsC P f ac rs n) {args : List AV} (hn : args.length = n) {r : AV}
    (hb : AW P ac (RetC rs (FzK r)) (argF args) S0) : PureC P f args r :=
  .of_callR (h.callR hm hn hb)
end Go.Rf

