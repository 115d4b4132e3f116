import Derived.Test.YtidkjfaeolfcaaaGreatRfCell
/- Own work: what a call made is frozen when it has returned. -/
set_option linter.unusedVariables false
set_option linter.unusedSimpArgs false
namespace Go.Rf
open Go.RowKit

theorem CallX.weak {P : Program} {f : FuncId} {args args' : List AV} {S : St} {K : AV → St → Prop} {X : Value → St → Prop} (h : CallX P f args' S K X) (hl : args'.length = args.length) (hr : ∀ j (h1 : j < args.length) (h2 : j < args'.length) (E : Env) (v : Value), Rep E (args[j]) v → Rep E (args'[j]) v) : CallX P f args S K X :=
  ⟨h.1, fun E w vals hG hS hv => h.2 E w vals hG hS ⟨by rw [hv.1, hl], fun j hj => hr j (by omega) hj E _ (hv.2 j (by omega))⟩⟩
section
variable {P : Program} {Q : Exit → AF → St → Prop} {a : AF} {S : St} {base i : Nat} {os : List AOper} {d : Option Nat} {op : AOp} {p : Option Opd} {K : AF → St → Prop}
private theorem AW_regX_ : AW P (.regX os p) Q a S = RGX P S.n p os 0 Q a ⟨S.n + os.length, S.g⟩ := rfl
theorem Z0e : AW P (.regX os p) Q a S = RGX P S.n p os 0 Q a ⟨S.n + os.length, S.g⟩ := by rw [AW_regX_]
end
end Go.Rf


/- Own work: a list whose end is known stands for one whose end isn't, within whatever. -/
set_option linter.unusedVariables false
set_option linter.unusedSimpArgs false
namespace Go.Rf
open Go.RowKit

inductive Wk : AV → AV → Prop
  | refl (x : AV) : Wk x x
  | sl (t : Bool) (xs ys : List AV) (hl : ys.length = xs.length) (h : ∀ i (h1 : i < xs.length) (h2 : i < ys.length), Wk (xs[i]) (ys[i])) : Wk (.sl t xs) (.sl false ys)
  | slt (t : Bool) (xs ys : List AV) (hl : ys.length = xs.length) (h : ∀ i (h1 : i < xs.length) (h2 : i < ys.length), Wk (xs[i]) (ys[i])) : Wk (.sl t xs) (.sl t ys)
  | agg (cs ds : List AV) (hl : ds.length = cs.length) (h : ∀ i (h1 : i < cs.length) (h2 : i < ds.length), Wk (cs[i]) (ds[i])) : Wk (.agg cs) (.agg ds)
theorem Wk.cells {x y : AV} (h : Wk x y) : ∀ i (h1 : i < x.cells.length) (h2 : i < y.cells.length), Wk (x.cells[i]) (y.cells[i]) := by
  cases h with
  | refl x => intro i h1 h2; exact .refl _
  | sl t xs ys hl h => intro i h1 h2; simp only [AV.cells, List.length_cons, List.length_nil, Nat.zero_add, Nat.lt_one_iff] at h1; subst h1; exact .sl t xs ys hl h
  | slt t xs ys hl h => intro i h1 h2; simp only [AV.cells, List.length_cons, List.length_nil, Nat.zero_add, Nat.lt_one_iff] at h1; subst h1; exact .slt t xs ys hl h
  | agg cs ds hl h => exact h
def WkL (a b : List AV) : Prop := b.length = a.length ∧ ∀ i (h1 : i < a.length) (h2 : i < b.length), Wk (a[i]) (b[i])
theorem WkL.nil : WkL [] [] := ⟨rfl, fun i h => by simp at h⟩
theorem WkL.cons {x y : AV} {a b : List AV} (h : Wk x y) (k : WkL a b) : WkL (x :: a) (y :: b) := by
  refine ⟨by simp [k.1], fun i h1 h2 => ?_⟩
  cases i with
  | zero => exact h
  | succ i => exact k.2 i (by simpa using h1) (by simpa using h2)
theorem WkL.refl (a : List AV) : WkL a a := ⟨rfl, fun _ _ _ => .refl _⟩
def Im (x y : AV) : Prop := ∀ E v, Rep E x v → Rep E y v
structure WkF (x y : AV) : Prop where
  rep : Im x y
  len : y.cells.length = x.cells.length
  cell : ∀ i (h1 : i < x.cells.length) (h2 : i < y.cells.length), Im (x.cells[i]) (y.cells[i])
  atom : x.atom = true → y.atom = true
  catom : (∀ z ∈ x.cells, z.atom = true) → ∀ z ∈ y.cells, z.atom = true
theorem wk_flat : ∀ {xs ys : List AV}, ys.length = xs.length → (∀ i (h1 : i < xs.length) (h2 : i < ys.length), WkF (xs[i]) (ys[i])) →
    (flat ys).length = (flat xs).length ∧ (∀ k (h1 : k < (flat xs).length) (h2 : k < (flat ys).length), Im ((flat xs)[k]) ((flat ys)[k])) ∧ ((∀ z ∈ flat xs, z.atom = true) → ∀ z ∈ flat ys, z.atom = true)
  | [], [], _, _ => ⟨rfl, fun k h1 => by simp [flat] at h1, fun _ z hz => by simp [flat] at hz⟩
  | [], _ :: _, h, _ => by simp at h
  | _ :: _, [], h, _ => by simp at h
  | x :: xs, y :: ys, hl, h => by
    obtain ⟨i1, i2, i3⟩ := wk_flat (xs := xs) (ys := ys) (by simpa using hl) (fun i h1 h2 => h (i + 1) (by simpa using h1) (by simpa using h2))
    have h0 := h 0 (by simp) (by simp)
    simp only [List.getElem_cons_zero] at h0
    have e1 : flat (x :: xs) = x.cells ++ flat xs := by simp [flat]
    have e2 : flat (y :: ys) = y.cells ++ flat ys := by simp [flat]
    refine ⟨by rw [e1, e2]; simp [h0.len, i1], fun k h1 h2 => ?_, fun hz z hzm => ?_⟩
    · simp only [e1, e2] at h1 h2 ⊢
      by_cases hk : k < x.cells.length
      · rw [List.getElem_append_left hk, List.getElem_append_left (by rw [h0.len]; exact hk)]
        exact h0.cell k hk (by rw [h0.len]; exact hk)
      · rw [List.getElem_append_right (by omega), List.getElem_append_right (by rw [h0.len]; omega)]
        simp only [h0.len]
        exact i2 _ _ _
    · rw [e2] at hzm
      rw [e1] at hz
      rcases List.mem_append.mp hzm with hm | hm
      · exact h0.catom (fun z hz' => hz z (by simp [hz'])) z hm
      · exact i3 (fun z hz' => hz z (by simp [hz'])) z hm
theorem Wk.f {x y : AV} (h : Wk x y) : WkF x y := by
  induction h with
  | refl x => exact ⟨fun _ _ h => h, rfl, fun _ _ _ _ _ h => h, id, id⟩
  | sl t xs ys hl h ih =>
    obtain ⟨f1, f2, f3⟩ := wk_flat hl ih
    have hrep : Im (.sl t xs) (.sl false ys) := by
      intro E v hr
      cases hr with
      | sl0 _ A cap ht =>
        have : ys = [] := List.eq_nil_of_length_eq_zero (by simpa using hl)
        subst this
        exact .sl0 false A cap (by simp)
      | sl _ _ b o cap cs es f hne hb hes hcap ht hat hc hr =>
        have hcount : xs.length = ys.length := hl.symm
        rw [hcount]
        refine .sl false ys b o cap cs es f (by omega) hb (fun z hz => ?_) (by omega) (by simp) (f3 hat) (fun k hk => hc k (by omega)) (fun k hk => f2 k (by omega) hk E _ (hr k (by omega)))
        obtain ⟨i, hi, rfl⟩ := List.mem_iff_getElem.mp hz
        rw [(ih i (by omega) hi).len]
        exact hes _ (List.getElem_mem _)
    refine ⟨hrep, rfl, fun i h1 h2 => ?_, fun _ => rfl, fun _ z hz => ?_⟩
    · simp only [AV.cells, List.length_cons, List.length_nil, Nat.zero_add, Nat.lt_one_iff] at h1
      subst h1
      exact hrep
    · simp [AV.cells] at hz; subst hz; rfl
  | slt t xs ys hl h ih =>
    obtain ⟨f1, f2, f3⟩ := wk_flat hl ih
    have hrep : Im (.sl t xs) (.sl t ys) := by
      intro E v hr
      cases hr with
      | sl0 _ A cap ht =>
        have : ys = [] := List.eq_nil_of_length_eq_zero (by simpa using hl)
        subst this
        exact .sl0 t A cap ht
      | sl _ _ b o cap cs es f hne hb hes hcap ht hat hc hr =>
        have hcount : xs.length = ys.length := hl.symm
        rw [hcount]
        refine .sl t ys b o cap cs es f (by omega) hb (fun z hz => ?_) (by omega) (fun e => by rw [ht e]; omega) (f3 hat) (fun k hk => hc k (by omega)) (fun k hk => f2 k (by omega) hk E _ (hr k (by omega)))
        obtain ⟨i, hi, rfl⟩ := List.mem_iff_getElem.mp hz
        rw [(ih i (by omega) hi).len]
        exact hes _ (List.getElem_mem _)
    refine ⟨hrep, rfl, fun i h1 h2 => ?_, fun _ => rfl, fun _ z hz => ?_⟩
    · simp only [AV.cells, List.length_cons, List.length_nil, Nat.zero_add, Nat.lt_one_iff] at h1
      subst h1
      exact hrep
    · simp [AV.cells] at hz; subst hz; rfl
  | agg cs ds hl h ih =>
    refine ⟨fun E v hr => ?_, hl, fun i h1 h2 => (ih i h1 h2).rep, fun e => by simp [AV.atom] at e, fun hz z hzm => ?_⟩
    · cases hr with
      | agg _ vs hn hat hr =>
        refine .agg ds vs (by omega) (fun z hz => ?_) (fun j hj => (ih j (by omega) hj).rep E _ (hr j (by omega)))
        obtain ⟨i, hi, rfl⟩ := List.mem_iff_getElem.mp hz
        exact (ih i (by omega) hi).atom (hat _ (List.getElem_mem _))
    · obtain ⟨i, hi, rfl⟩ := List.mem_iff_getElem.mp hzm
      exact (ih i (by simp only [AV.cells] at hi ⊢; omega) hi).atom (hz _ (List.getElem_mem _))
theorem PureC.wk {P : Program} {f : FuncId} {args args' : List AV} {r : AV} (h : PureC P f args' r) (hw : WkL args args') : PureC P f args r :=
  h.weak hw.1 (fun j h1 h2 E v hr => (hw.2 j h1 h2).f.rep E v hr)
end Go.Rf

