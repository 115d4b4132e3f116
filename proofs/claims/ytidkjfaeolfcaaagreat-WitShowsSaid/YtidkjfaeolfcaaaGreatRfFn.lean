import Derived.Test.YtidkjfaeolfcaaaGreatRfWp
set_option linter.unusedVariables false
set_option linter.unusedSimpArgs false
namespace Go.Rf
open Go.RowKit

def argF (args : List AV) : AF := fun t => args.getD t .junk
def retAV (ts : List Nat) (a : AF) : AV :=
  match ts with
  | [t] => a t
  | ts => .tup (ts.map a)
def retV (ts : List Nat) (tmps : Array Value) : Value :=
  match ts with
  | [t] => tmps.getD t undef
  | ts => .tuple (ts.map fun t => tmps.getD t undef).toArray
def RetK (ts : List Nat) (K : AV → St → Prop) : Exit → AF → St → Prop
  | .ret, a, S => K (retAV ts a) S
  | .normal, a, S => K (retAV ts a) S
  | _, _, _ => False
theorem run_results {P : Program} {fn : Func} {ts : List Nat} (hr : fn.results = (ts.map ResultVar.tmp).toArray) (tmps : Array Value) (w : World) :
    (results fn tmps).run P w = .ok (retV ts tmps) w := by
  have hm : ∀ (l : List Nat), ((l.map ResultVar.tmp).mapM (fun
      | .tmp t => pure (tmps.getD t undef)
      | .cell a t => do loadVar t (← asAddr (tmps.getD a undef)) : ResultVar → Sem Value)).run P w = .ok (l.map fun t => tmps.getD t undef) w := by
    intro l
    induction l with
    | nil => rfl
    | cons t l ih =>
      simp only [List.map_cons, List.mapM_cons, Sem.run_bind]
      rw [show (Sem.run P (pure (tmps.getD t undef)) w : Result Value) = .ok (tmps.getD t undef) w from rfl]
      simp only [Result.andThen_ok]
      rw [ih]
      rfl
  unfold results
  rw [hr]
  rw [Array.mapM_eq_mapM_toList, map_eq_pure_bind]
  simp only [Sem.run_bind]
  have h2 := hm ts
  erw [h2]
  simp only [Result.andThen_ok]
  match ts with
  | [] => rfl
  | [t] => rfl
  | t :: u :: ts =>
    show Result.ok (if h : _ then _ else _) w = _
    rw [dif_neg (by simp)]; rfl
theorem retAV_rep {E : Env} {n : Nat} {a : AF} {act : Act} (hF : RepF E n a act) (ts : List Nat) :
    Rep E (retAV ts a) (retV ts act.tmps) := by
  match ts with
  | [t] => exact hF.at_ t
  | [] => exact .tup _ _ (by simp) (by simp)
  | t :: u :: ts =>
    refine .tup _ _ (by simp) (fun j hj => ?_)
    have hj' : j < (t :: u :: ts).length := by simpa using hj
    have := hF.at_ ((t :: u :: ts)[j])
    simp only [List.getElem_map]
    simp only [Array.getD_eq_getD_getElem?, List.getElem?_toArray, List.getElem?_map, List.getElem?_eq_getElem hj', Option.map_some, Option.getD_some] at this ⊢
    exact this
theorem repF_args {E : Env} {args : List AV} {vals : Array Value} (h : Reps E args vals) {n : Nat} (hn : args.length ≤ n) :
    RepF E n (argF args) { tmps := vals ++ Array.replicate (n - vals.size) undef, defers := [] } := by
  have h1 := h.1
  refine ⟨by simp; omega, rfl, fun t => ?_⟩
  simp only [argF]
  by_cases ht : t < args.length
  · have := h.2 t ht
    simp only [List.getD_eq_getElem?_getD, List.getElem?_eq_getElem ht, Option.getD_some]
    simp only [Array.getD_eq_getD_getElem?] at this ⊢
    rw [Array.getElem?_append_left (by omega)]; exact this
  · simp only [List.getD_eq_getElem?_getD, List.getElem?_eq_none (Nat.le_of_not_lt ht), Option.getD_none]
    exact .junk _
theorem callable_of {P : Program} {f : FuncId} {fn : Func} {c : Code} (hf : P.funcs[f]? = some fn) (hnm : (fn.name == "runtime.NumGoroutine") = false) (hb : fn.body = some c) : Callable P f :=
  ⟨fn, hf, hnm, by rw [hb]; rfl⟩
/-! ### freezing -/
inductive Fz (g : Nat → Option Blk) : AV → AV → Prop
  | closed (x : AV) (h : Closed x) : Fz g x x
  | loose (t : Bool) (xs : List AV) (h : Closed (.sl t xs)) : Fz g (.sl t xs) (.sl false xs)
  | own (id off len es : Nat) (xs zs : List AV) (hg : g id = some (.arr es xs)) (hl : off + len ≤ xs.length) (hz : zs.length = len)
      (h : ∀ i (h1 : i < ((xs.drop off).take len).length) (h2 : i < zs.length), Fz g (((xs.drop off).take len)[i]) (zs[i])) : Fz g (.own id off len) (.sl false zs)
  | agg (cs ds : List AV) (hl : ds.length = cs.length) (h : ∀ i (h1 : i < cs.length) (h2 : i < ds.length), Fz g (cs[i]) (ds[i])) : Fz g (.agg cs) (.agg ds)
  | tup (cs ds : List AV) (hl : ds.length = cs.length) (h : ∀ i (h1 : i < cs.length) (h2 : i < ds.length), Fz g (cs[i]) (ds[i])) : Fz g (.tup cs) (.tup ds)
  | ptr (id ix c es : Nat) (xs : List AV) (z : AV) (hg : g id = some (.arr es xs)) (hl : ix < xs.length) (h : Fz g (xs[ix]) z) : Fz g (.ptr id ix c) (.eptr z c)
  /-- a pointer at a block, as one at the block's first cells -/
  | pre (id es : Nat) (cs ds : List AV) (hg : g id = some (.arr es [.agg (cs ++ ds)])) (hc : ∀ y ∈ cs, Closed y) : Fz g (.ptr id 0 0) (.eptr (.agg cs) 0)
  | clo (f : FuncId) (as bs as' bs' : List AV) (hl : as'.length = as.length) (hm : bs'.length = bs.length) (h : ∀ i (h1 : i < as.length) (h2 : i < as'.length), Fz g (as[i]) (as'[i]))
      (k : ∀ i (h1 : i < bs.length) (h2 : i < bs'.length), Fz g (bs[i]) (bs'[i])) : Fz g (.clo f as bs) (.clo f as' bs')
theorem Fz.cells {g : Nat → Option Blk} {x r : AV} (h : Fz g x r) : r.cells.length = x.cells.length ∧ (x.atom = true → r.atom = true) ∧ ∀ i (h1 : i < x.cells.length) (h2 : i < r.cells.length), Fz g (x.cells[i]) (r.cells[i]) := by
  cases h with
  | closed _ h => exact ⟨rfl, id, fun i h1 h2 => .closed _ (h.cells _ (List.getElem_mem h1))⟩
  | loose t xs h => exact ⟨rfl, fun _ => rfl, fun i h1 h2 => by simp [AV.cells] at h1; subst h1; exact .loose t xs h⟩
  | own id off len es xs zs hg hl hz h => exact ⟨rfl, fun _ => rfl, fun i h1 h2 => by simp [AV.cells] at h1; subst h1; exact .own id off len es xs zs hg hl hz h⟩
  | agg cs ds hl h => exact ⟨hl, fun e => by simp [AV.atom] at e, h⟩
  | tup cs ds hl h => exact ⟨rfl, fun e => by simp [AV.atom] at e, fun i h1 h2 => by simp [AV.cells] at h1; subst h1; exact .tup cs ds hl h⟩
  | ptr id ix c es xs z hg hl h => exact ⟨rfl, fun _ => rfl, fun i h1 h2 => by simp [AV.cells] at h1; subst h1; exact .ptr id ix c es xs z hg hl h⟩
  | pre id es cs ds hg hc => exact ⟨rfl, fun _ => rfl, fun i h1 h2 => by simp [AV.cells] at h1; subst h1; exact .pre id es cs ds hg hc⟩
  | clo f as bs as' bs' hl hm h k => exact ⟨rfl, fun _ => rfl, fun i h1 h2 => by simp [AV.cells] at h1; subst h1; exact .clo f as bs as' bs' hl hm h k⟩
theorem fz_flat {g : Nat → Option Blk} : ∀ {xs zs : List AV}, zs.length = xs.length → (∀ i (h1 : i < xs.length) (h2 : i < zs.length), Fz g (xs[i]) (zs[i])) →
    (flat zs).length = (flat xs).length ∧ ∀ k (h1 : k < (flat xs).length) (h2 : k < (flat zs).length), Fz g ((flat xs)[k]) ((flat zs)[k])
  | [], [], _, _ => ⟨rfl, fun k h1 => by simp [flat] at h1⟩
  | [], _ :: _, h, _ => by simp at h
  | _ :: _, [], h, _ => by simp at h
  | x :: xs, z :: zs, hl, h => by
    obtain ⟨i1, i2⟩ := fz_flat (xs := xs) (zs := zs) (by simpa using hl) (fun i h1 h2 => h (i + 1) (by simpa using h1) (by simpa using h2))
    obtain ⟨c1, _, c3⟩ := (h 0 (by simp) (by simp)).cells
    simp only [List.getElem_cons_zero] at c1 c3
    have e1 : flat (x :: xs) = x.cells ++ flat xs := by simp [flat]
    have e2 : flat (z :: zs) = z.cells ++ flat zs := by simp [flat]
    refine ⟨by rw [e1, e2]; simp [c1, i1], fun k h1 h2 => ?_⟩
    simp only [e1, e2] at h1 h2 ⊢
    by_cases hk : k < x.cells.length
    · rw [List.getElem_append_left hk, List.getElem_append_left (by omega)]
      exact c3 k hk (by omega)
    · rw [List.getElem_append_right (by omega), List.getElem_append_right (by omega)]
      simp only [c1]
      exact i2 _ _ _
theorem AV.solid_of_atom {z : AV} (h : z.atom = true) : z.solid = true := by cases z <;> first | rfl | (simp [AV.atom] at h)
theorem flat_single (x : AV) : flat [x] = x.cells := by simp [flat]
theorem fz_own {E : Env} {S : St} {w : World} (hS : Sim E S w) {g : Nat → Option Blk} (hg : ∀ i k, g i = some k → S.g i = some k) {E2 : Env}
    (hL : ∀ id es xs l, g id = some (.arr es xs) → E.ρ id = some l → ∀ cs el fz, w.heap[l.b]? = some (.cells cs el fz) → E2.H l.b = some cs) {id off len es : Nat} {xs zs : List AV} (hgi : g id = some (.arr es xs)) (hl : off + len ≤ xs.length) (hz : zs.length = len)
    (h : ∀ i (h1 : i < ((xs.drop off).take len).length) (h2 : i < zs.length), Fz g (((xs.drop off).take len)[i]) (zs[i]))
    (ih : ∀ i (h1 : i < ((xs.drop off).take len).length) (h2 : i < zs.length) {v : Value}, Rep E (((xs.drop off).take len)[i]) v → Rep E2 (zs[i]) v) {v : Value} (hr : Rep E (.own id off len) v) : Rep E2 (.sl false zs) v := by
  obtain ⟨A, cap, rfl, hle, hrd⟩ := reads_own hS hr (hg _ _ hgi) hl
  have hlen : ((xs.drop off).take len).length = len := by simp; omega
  by_cases h0 : len = 0
  · have : zs = [] := List.eq_nil_of_length_eq_zero (by omega)
    subst this; subst h0
    exact .sl0 false A cap (by simp)
  · have hne : (xs.drop off).take len ≠ [] := by intro e; rw [e] at hlen; simp at hlen; omega
    cases hr with
    | own _ _ _ _ _ l hl2 _ hA =>
      obtain ⟨b, o, cs, el, fz, hAe, hw, hcells⟩ := hrd.at_ hne
      obtain ⟨hA1, hA2⟩ := hA (by omega)
      rw [hA1] at hAe
      simp only [Option.some.injEq, Addr.mk.injEq] at hAe
      obtain ⟨hb, ho, _⟩ := hAe
      obtain ⟨f1, f2⟩ := fz_flat (xs := (xs.drop off).take len) (zs := zs) (by omega) h
      rw [hA1, hb, ho]
      have hcount : zs.length = len := hz
      rw [← hcount]
      refine .sl false zs b o cap cs es (fun k => cs.getD (o + k) undef) (by omega) (by rw [← hb]; exact hL id es xs l hgi hl2 cs el fz (by rw [hb]; exact hw)) ?_ (by omega) (by simp) ?_ ?_ ?_
      · intro z hz2
        obtain ⟨i, hi, e⟩ := List.mem_iff_getElem.mp hz2
        have := (h i (by omega) hi).cells.1
        rw [← e, this]
        exact hrd.hes _ (List.getElem_mem _)
      · intro y hy
        obtain ⟨k, hk, e⟩ := List.mem_iff_getElem.mp hy
        have := (f2 k (by omega) hk).cells.2.1 (hrd.hat _ (List.getElem_mem _))
        rw [← e]; exact this
      · intro k hk
        obtain ⟨u, a1, a2⟩ := hcells k (by omega)
        simp [Array.getD_eq_getD_getElem?, a1]
      · intro k hk
        obtain ⟨u, a1, a2⟩ := hcells k (by omega)
        -- the cell's own freezing: by the element that it lies in
        obtain ⟨hi, hj, e1⟩ := flat_get hrd.hes k (by omega)
        have hzes : ∀ z ∈ zs, z.cells.length = es := by
          intro z hz2
          obtain ⟨i, hi, e⟩ := List.mem_iff_getElem.mp hz2
          have := (h i (by omega) hi).cells.1
          rw [← e, this]
          exact hrd.hes _ (List.getElem_mem _)
        obtain ⟨hi2, hj2, e2⟩ := flat_get hzes k hk
        obtain ⟨b', o', cs', el', fz', hAe', hw', hce⟩ := hrd.elem (k / es) hi
        rw [hA1] at hAe'
        simp only [Option.some.injEq, Addr.mk.injEq] at hAe'
        obtain ⟨hb', ho', _⟩ := hAe'
        have hbb : b' = b := by omega
        have hoo : o' = o := by omega
        subst hbb; subst hoo
        rw [hw] at hw'
        cases hw'
        have hfz := h (k / es) hi (by omega)
        have hat : ∀ y ∈ (((xs.drop off).take len)[k / es]).cells, y.atom = true := fun y hy => flat_atoms hrd.hat _ (List.getElem_mem hi) y hy
        obtain ⟨val, hv1, hv2, hv3⟩ : ∃ val, Rep E (((xs.drop off).take len)[k / es]) val ∧ (∀ j, j < (((xs.drop off).take len)[k / es]).cells.length → val.cells.getD j undef = cs.getD (o' + (k / es * es + j)) undef) ∧ (zs[k / es]).solid = true := by
          generalize hyy : ((xs.drop off).take len)[k / es] = y at hat hce hfz
          cases y with
          | agg ds =>
            refine ⟨.agg ((List.range ds.length).map fun j => cs.getD (o' + (k / es * es + j)) undef).toArray, .agg ds _ (by simp) hat (fun j hj => ?_), fun j hj => ?_, ?_⟩
            · obtain ⟨u, a1, a2⟩ := hce j hj
              simp [hj, Array.getD_eq_getD_getElem?, a1]; exact a2
            · have hj' : j < ds.length := hj
              simp [Value.cells, hj', Array.getD_eq_getD_getElem?]
            · generalize zs[k / es] = z at hfz
              cases hfz <;> rfl
          | junk => have := hat .junk (by simp [AV.cells]); simp [AV.atom] at this
          | tup ds => have := hat (.tup ds) (by simp [AV.cells]); simp [AV.atom] at this
          | _ =>
            obtain ⟨u, a1, a2⟩ := hce 0 (by simp [AV.cells])
            simp only [AV.cells, List.getElem_cons_zero, Nat.add_zero] at a1 a2
            refine ⟨u, a2, fun j hj => ?_, ?_⟩
            · simp [AV.cells] at hj; subst hj
              rw [(a2.atom_cells rfl).1]
              simp [Array.getD_eq_getD_getElem?, a1]
            · exact AV.solid_of_atom (hfz.cells.2.1 rfl)
        have r2 := ih (k / es) hi (by omega) hv1
        obtain ⟨s1, s2⟩ := r2.cells hv3
        have hkj : k % es < (zs[k / es]).cells.length := hj2
        have r3 := s2 (k % es) hkj
        rw [hv2 (k % es) hj] at r3
        have hdm : k / es * es + k % es = k := by rw [Nat.mul_comm]; exact Nat.div_add_mod k es
        rw [hdm] at r3
        rw [e2]; exact r3
theorem Fz.rep {E : Env} {S : St} {w : World} (hS : Sim E S w) {g : Nat → Option Blk} (hg : ∀ i k, g i = some k → S.g i = some k) {E2 : Env} (hH : ∀ b cs, E.H b = some cs → E2.H b = some cs)
    (hL : ∀ id es xs l, g id = some (.arr es xs) → E.ρ id = some l → ∀ cs el fz, w.heap[l.b]? = some (.cells cs el fz) → E2.H l.b = some cs) :
    ∀ {x r : AV}, Fz g x r → ∀ {v : Value}, Rep E x v → Rep E2 r v := by
  intro x r h
  induction h with
  | closed x hx => intro v hr; exact hr.closed hH hx
  | loose t xs hx => intro v hr; exact (hr.closed hH hx).loose
  | own id off len es xs zs hgi hl hz h ih =>
    intro v hr
    exact fz_own hS hg hL hgi hl hz h (fun i h1 h2 v hv => ih i h1 h2 hv) hr
  | ptr id ix c es xs z hgi hl h ih =>
    intro v hr
    cases hr with
    | ptr _ _ _ l hl2 =>
      obtain ⟨l', e, hN, ok⟩ := hS.live id _ (hg _ _ hgi)
      rw [hl2] at e; cases e
      have hone : (xs.drop ix).take 1 = [xs[ix]] := by rw [List.drop_eq_getElem_cons hl]; rfl
      have r1 : Rep E (.own id ix 1) (.slice (some ⟨l.b, l.o + ix * l.es, none⟩) 1 1) := .own id ix 1 _ 1 l hl2 (Nat.le_refl _) (fun _ => ⟨rfl, by have := ok.2.1; omega⟩)
      have r2 := fz_own (zs := [z]) (off := ix) (len := 1) hS hg hL hgi (by omega) rfl (by
        rw [hone]
        intro i h1 h2
        have : i = 0 := by simpa using h1
        subst this; exact h) (by
        rw [hone]
        intro i h1 h2 v hv
        have : i = 0 := by simpa using h1
        subst this; exact ih hv) r1
      cases r2 with
      | sl _ _ b o cap cs es' f hne hb hes hcap ht hat hc hr =>
        simp only [flat_single] at hat hc hr
        exact .eptr z c _ _ cs f hb hat hc hr
  | pre id es cs ds hgi hc =>
    intro v hr
    cases hr with
    | ptr _ _ _ l hl =>
      obtain ⟨l', a1, a2, a3⟩ := hS.live id _ (hg _ _ hgi)
      rw [hl] at a1; cases a1
      obtain ⟨h1, h2, h3, h4, cv, el, h5, h6, h7⟩ := a3
      have hfl : flat [AV.agg (cs ++ ds)] = cs ++ ds := by simp [flat, AV.cells]
      rw [hfl] at h4
      have e1 : (⟨l.b, l.o + 0 * l.es + 0, none⟩ : Addr) = ⟨l.b, l.o + 0, none⟩ := by simp
      rw [e1]
      refine .eptr (.agg cs) 0 l.b l.o cv (fun k => cv.getD (l.o + k) undef) (hL id es _ l hgi hl cv el (0, 0) h5) (fun y hy => h4 y (List.mem_append_left _ hy)) (fun k hk => ?_) (fun k hk => ?_)
      · simp only [AV.cells] at hk
        obtain ⟨u, q1, q2⟩ := h7 k (by rw [hfl, List.length_append]; omega)
        simp [Array.getD_eq_getD_getElem?, q1]
      · simp only [AV.cells] at hk
        obtain ⟨u, q1, q2⟩ := h7 k (by rw [hfl, List.length_append]; omega)
        have hu : cv.getD (l.o + k) undef = u := by simp [Array.getD_eq_getD_getElem?, q1]
        simp only [hu, AV.cells]
        have e2 : (flat [AV.agg (cs ++ ds)])[k]'(by rw [hfl, List.length_append]; omega) = cs[k] := by
          simp only [hfl]
          exact List.getElem_append_left hk
        rw [e2] at q2
        exact Rep.closed hH q2 (hc _ (List.getElem_mem hk))
  | clo f as bs as' bs' hl hm h k ih1 ih2 =>
    intro v hr
    cases hr with
    | clo _ _ _ fv cv hn hm' hf hc => exact .clo f as' bs' fv cv (by omega) (by omega) (fun j hj => ih1 j (by omega) hj (hf j (by omega))) (fun j hj => ih2 j (by omega) hj (hc j (by omega)))
  | agg cs ds hl h ih =>
    intro v hr
    cases hr with
    | agg _ vs hn hat hr =>
      refine .agg ds vs (by omega) (fun y hy => ?_) (fun j hj => ih j (by omega) hj (hr j (by omega)))
      obtain ⟨k, hk, e⟩ := List.mem_iff_getElem.mp hy
      rw [← e]
      exact (h k (by omega) hk).cells.2.1 (hat _ (List.getElem_mem _))
  | tup cs ds hl h ih =>
    intro v hr
    cases hr with
    | tup _ vs hn hr => exact .tup ds vs (by omega) (fun j hj => ih j (by omega) hj (hr j (by omega)))
end Go.Rf

