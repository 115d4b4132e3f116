import Derived.Test.YtpinfihfbjkijaaDoorRfCell
import Derived.Test.YtpinfihfbjkijaaDoorRfE8
import Derived.Test.YtpinfihfbjkijaaDoorRfN4
import Derived.Test.YtpinfihfbjkijaaDoorRfCat
import Derived.Test.YtpinfihfbjkijaaDoorRfNew
/- Own work: a list whose end is known stands for one whose end isn't, within whatever. -/
set_option linter.unusedVariables false
set_option linter.unusedSimpArgs false
namespace Go.Rf
open Go.RowKit

inductive Wk : AV → AV → Prop
  | refl (x : AV) : Wk x x
  | sl (t : Bool) (xs ys : List AV) (hl : ys.length = xs.length) (h : ∀ i (h1 : i < xs.length) (h2 : i < ys.length), Wk (xs[i]) (ys[i])) : Wk (.sl t xs) (.sl false ys)
  | slt (t : Bool) (xs ys : List AV) (hl : ys.length = xs.length) (h : ∀ i (h1 : i < xs.length) (h2 : i < ys.length), Wk (xs[i]) (ys[i])) : Wk (.sl t xs) (.sl t ys)
  | agg (cs ds : List AV) (hl : ds.length = cs.length) (h : ∀ i (h1 : i < cs.length) (h2 : i < ds.length), Wk (cs[i]) (ds[i])) : Wk (.agg cs) (.agg ds)
theorem Wk.cells {x y : AV} (h : Wk x y) : ∀ i (h1 : i < x.cells.length) (h2 : i < y.cells.length), Wk (x.cells[i]) (y.cells[i]) := by
  cases h with
  | refl x => intro i h1 h2; exact .refl _
  | sl t xs ys hl h => intro i h1 h2; simp only [AV.cells, List.length_cons, List.length_nil, Nat.zero_add, Nat.lt_one_iff] at h1; subst h1; exact .sl t xs ys hl h
  | slt t xs ys hl h => intro i h1 h2; simp only [AV.cells, List.length_cons, List.length_nil, Nat.zero_add, Nat.lt_one_iff] at h1; subst h1; exact .slt t xs ys hl h
  | agg cs ds hl h => exact h
def WkL (a b : List AV) : Prop := b.length = a.length ∧ ∀ i (h1 : i < a.length) (h2 : i < b.length), Wk (a[i]) (b[i])
theorem WkL.nil : WkL [] [] := ⟨rfl, fun i h => by simp at h⟩
theorem WkL.cons {x y : AV} {a b : List AV} (h : Wk x y) (k : WkL a b) : WkL (x :: a) (y :: b) := by
  refine ⟨by simp [k.1], fun i h1 h2 => ?_⟩
  cases i with
  | zero => exact h
  | succ i => exact k.2 i (by simpa using h1) (by simpa using h2)
theorem WkL.refl (a : List AV) : WkL a a := ⟨rfl, fun _ _ _ => .refl _⟩
theorem Wk.sl' {t : Bool} {xs ys : List AV} (h : WkL xs ys) : Wk (.sl t xs) (.sl false ys) := .sl t xs ys h.1 h.2
theorem Wk.agg' {xs ys : List AV} (h : WkL xs ys) : Wk (.agg xs) (.agg ys) := .agg xs ys h.1 h.2
def Im (x y : AV) : Prop := ∀ E v, Rep E x v → Rep E y v
structure WkF (x y : AV) : Prop where
  rep : Im x y
  len : y.cells.length = x.cells.length
  cell : ∀ i (h1 : i < x.cells.length) (h2 : i < y.cells.length), Im (x.cells[i]) (y.cells[i])
  atom : x.atom = true → y.atom = true
  catom : (∀ z ∈ x.cells, z.atom = true) → ∀ z ∈ y.cells, z.atom = true
theorem wk_flat : ∀ {xs ys : List AV}, ys.length = xs.length → (∀ i (h1 : i < xs.length) (h2 : i < ys.length), WkF (xs[i]) (ys[i])) →
    (flat ys).length = (flat xs).length ∧ (∀ k (h1 : k < (flat xs).length) (h2 : k < (flat ys).length), Im ((flat xs)[k]) ((flat ys)[k])) ∧ ((∀ z ∈ flat xs, z.atom = true) → ∀ z ∈ flat ys, z.atom = true)
  | [], [], _, _ => ⟨rfl, fun k h1 => by simp [flat] at h1, fun _ z hz => by simp [flat] at hz⟩
  | [], _ :: _, h, _ => by simp at h
  | _ :: _, [], h, _ => by simp at h
  | x :: xs, y :: ys, hl, h => by
    obtain ⟨i1, i2, i3⟩ := wk_flat (xs := xs) (ys := ys) (by simpa using hl) (fun i h1 h2 => h (i + 1) (by simpa using h1) (by simpa using h2))
    have h0 := h 0 (by simp) (by simp)
    simp only [List.getElem_cons_zero] at h0
    have e1 : flat (x :: xs) = x.cells ++ flat xs := by simp [flat]
    have e2 : flat (y :: ys) = y.cells ++ flat ys := by simp [flat]
    refine ⟨by rw [e1, e2]; simp [h0.len, i1], fun k h1 h2 => ?_, fun hz z hzm => ?_⟩
    · simp only [e1, e2] at h1 h2 ⊢
      by_cases hk : k < x.cells.length
      · rw [List.getElem_append_left hk, List.getElem_append_left (by rw [h0.len]; exact hk)]
        exact h0.cell k hk (by rw [h0.len]; exact hk)
      · rw [List.getElem_append_right (by omega), List.getElem_append_right (by rw [h0.len]; omega)]
        simp only [h0.len]
        exact i2 _ _ _
    · rw [e2] at hzm
      rw [e1] at hz
      rcases List.mem_append.mp hzm with hm | hm
      · exact h0.catom (fun z hz' => hz z (by simp [hz'])) z hm
      · exact i3 (fun z hz' => hz z (by simp [hz'])) z hm
theorem Wk.f {x y : AV} (h : Wk x y) : WkF x y := by
  induction h with
  | refl x => exact ⟨fun _ _ h => h, rfl, fun _ _ _ _ _ h => h, id, id⟩
  | sl t xs ys hl h ih =>
    obtain ⟨f1, f2, f3⟩ := wk_flat hl ih
    have hrep : Im (.sl t xs) (.sl false ys) := by
      intro E v hr
      cases hr with
      | sl0 _ A cap ht =>
        have : ys = [] := List.eq_nil_of_length_eq_zero (by simpa using hl)
        subst this
        exact .sl0 false A cap (by simp)
      | sl _ _ b o cap cs es f hne hb hes hcap ht hat hc hr =>
        have hcount : xs.length = ys.length := hl.symm
        rw [hcount]
        refine .sl false ys b o cap cs es f (by omega) hb (fun z hz => ?_) (by omega) (by simp) (f3 hat) (fun k hk => hc k (by omega)) (fun k hk => f2 k (by omega) hk E _ (hr k (by omega)))
        obtain ⟨i, hi, rfl⟩ := List.mem_iff_getElem.mp hz
        rw [(ih i (by omega) hi).len]
        exact hes _ (List.getElem_mem _)
    refine ⟨hrep, rfl, fun i h1 h2 => ?_, fun _ => rfl, fun _ z hz => ?_⟩
    · simp only [AV.cells, List.length_cons, List.length_nil, Nat.zero_add, Nat.lt_one_iff] at h1
      subst h1
      exact hrep
    · simp [AV.cells] at hz; subst hz; rfl
  | slt t xs ys hl h ih =>
    obtain ⟨f1, f2, f3⟩ := wk_flat hl ih
    have hrep : Im (.sl t xs) (.sl t ys) := by
      intro E v hr
      cases hr with
      | sl0 _ A cap ht =>
        have : ys = [] := List.eq_nil_of_length_eq_zero (by simpa using hl)
        subst this
        exact .sl0 t A cap ht
      | sl _ _ b o cap cs es f hne hb hes hcap ht hat hc hr =>
        have hcount : xs.length = ys.length := hl.symm
        rw [hcount]
        refine .sl t ys b o cap cs es f (by omega) hb (fun z hz => ?_) (by omega) (fun e => by rw [ht e]; omega) (f3 hat) (fun k hk => hc k (by omega)) (fun k hk => f2 k (by omega) hk E _ (hr k (by omega)))
        obtain ⟨i, hi, rfl⟩ := List.mem_iff_getElem.mp hz
        rw [(ih i (by omega) hi).len]
        exact hes _ (List.getElem_mem _)
    refine ⟨hrep, rfl, fun i h1 h2 => ?_, fun _ => rfl, fun _ z hz => ?_⟩
    · simp only [AV.cells, List.length_cons, List.length_nil, Nat.zero_add, Nat.lt_one_iff] at h1
      subst h1
      exact hrep
    · simp [AV.cells] at hz; subst hz; rfl
  | agg cs ds hl h ih =>
    refine ⟨fun E v hr => ?_, hl, fun i h1 h2 => (ih i h1 h2).rep, fun e => by simp [AV.atom] at e, fun hz z hzm => ?_⟩
    · cases hr with
      | agg _ vs hn hat hr =>
        refine .agg ds vs (by omega) (fun z hz => ?_) (fun j hj => (ih j (by omega) hj).rep E _ (hr j (by omega)))
        obtain ⟨i, hi, rfl⟩ := List.mem_iff_getElem.mp hz
        exact (ih i (by omega) hi).atom (hat _ (List.getElem_mem _))
    · obtain ⟨i, hi, rfl⟩ := List.mem_iff_getElem.mp hzm
      exact (ih i (by simp only [AV.cells] at hi ⊢; omega) hi).atom (hz _ (List.getElem_mem _))
theorem PureC.wk {P : Program} {f : FuncId} {args args' : List AV} {r : AV} (h : PureC P f args' r) (hw : WkL args args') : PureC P f args r :=
  h.weak hw.1 (fun j h1 h2 E v hr => (hw.2 j h1 h2).f.rep E v hr)
end Go.Rf


/- Own work: the making of sets, told so that it runs. -/
set_option linter.unusedVariables false
namespace Go.Rf

def stepP (n : Net) (at_ : List Int) (sign : Int) : List Int := putAll [] (behindL n at_ sign)
def bhP (kd : Kd) (n : Net) (set : List Int) (s : Int) : List Int :=
  match kd with
  | .whole => stepP n set s
  | .tails => 0 :: stepP n set s
  | .heads => if endsB n set = true then set else stepP n set s
def nxP (kd : Kd) (n : Net) (most : Int) (i : Nat) (st : Sts) : Option Sts :=
  match st.1[i]? with
  | none => none
  | some set => match rowF most (bhP kd n set) n.signs.toNat st.1 with
    | none => none
    | some (s2, r) => some (s2, st.2.1 ++ [r], st.2.2 ++ [endsB n set])
def goP (kd : Kd) (n : Net) (most : Int) : Nat → Nat → Sts → Option Sts
  | 0, _, _ => none
  | f + 1, i, st => if i = st.1.length then some st else match nxP kd n most i st with
    | none => none
    | some st' => goP kd n most f (i + 1) st'
def resP (kd : Kd) (n : Net) (most : Int) : Det × Int :=
  if rightN n = true ∧ 1 ≤ most ∧ most ≤ 3000 then (match goP kd n most (most.toNat + 1) 0 ([[0]], [], []) with
    | some st => (⟨n.signs, st.2.1, st.2.2⟩, 0)
    | none => (⟨0, [], []⟩, 13))
  else (⟨0, [], []⟩, 1)
theorem stepP_eq (n : Net) (a : List Int) (s : Int) : stepP n a s = stepN n a s := putAll_set _
theorem bhP_eq (kd : Kd) (n : Net) (a : List Int) : bhP kd n a = bhS kd n a := by
  funext s; cases kd <;> simp [bhP, bhS, stepP_eq]
theorem nxP_eq (kd : Kd) (n : Net) (most : Int) (i : Nat) (st : Sts) : nxP kd n most i st = nxF kd n most i st := by
  unfold nxP nxF; simp only [bhP_eq]; rfl
theorem goP_eq (kd : Kd) (n : Net) (most : Int) : ∀ (f i : Nat) (st : Sts), goP kd n most f i st = goF kd n most f i st
  | 0, _, _ => rfl
  | f + 1, i, st => by
    unfold goP goF
    rw [nxP_eq]
    split
    · rfl
    · cases nxF kd n most i st with
      | none => rfl
      | some st' => exact goP_eq kd n most f (i + 1) st'
theorem resP_eq (kd : Kd) (n : Net) (most : Int) : resP kd n most = resD kd n most := by
  unfold resP resD dmakeF
  rw [goP_eq]
  rfl
end Go.Rf


/- Own work: nets read back out of values, whatever the kind of their lists. -/
set_option linter.unusedVariables false
namespace Go.Rf

def dI : AV → Option Int
  | .v (.int .i64 n) => some n
  | _ => none
def dIL : List AV → Option (List Int)
  | [] => some []
  | x :: xs => match dI x, dIL xs with
    | some n, some l => some (n :: l)
    | _, _ => none
def dIs : AV → Option (List Int)
  | .sl _ xs => dIL xs
  | _ => none
def dIsL : List AV → Option (List (List Int))
  | [] => some []
  | x :: xs => match dIs x, dIsL xs with
    | some n, some l => some (n :: l)
    | _, _ => none
def dIss : AV → Option (List (List Int))
  | .sl _ xs => dIsL xs
  | _ => none
def dNet : AV → Option Net
  | .agg [a, b, c, d] => match dI a, dIss b, dIss c, dIs d with
    | some a, some b, some c, some d => some ⟨a, b, c, d⟩
    | _, _, _, _ => none
  | _ => none
theorem dI_eq {x : AV} {n : Int} (h : dI x = some n) : x = encI n := by
  unfold dI at h
  split at h
  · cases h; rfl
  · cases h
theorem dIL_eq : ∀ {xs : List AV} {l : List Int}, dIL xs = some l → xs = l.map encI
  | [], l, h => by cases h; rfl
  | x :: xs, l, h => by
    unfold dIL at h
    split at h
    · rename_i n l' h1 h2
      cases h
      rw [dI_eq h1, dIL_eq h2]; rfl
    · cases h
theorem dIs_wk {x : AV} {l : List Int} (h : dIs x = some l) : Wk x (encIs l) := by
  unfold dIs at h
  split at h
  · rw [dIL_eq h]; exact Wk.sl' (WkL.refl _)
  · cases h
theorem dIsL_wk : ∀ {xs : List AV} {l : List (List Int)}, dIsL xs = some l → WkL xs (l.map encIs)
  | [], l, h => by cases h; exact WkL.nil
  | x :: xs, l, h => by
    unfold dIsL at h
    split at h
    · rename_i n l' h1 h2
      cases h
      exact WkL.cons (dIs_wk h1) (dIsL_wk h2)
    · cases h
theorem dIss_wk {x : AV} {l : List (List Int)} (h : dIss x = some l) : Wk x (encIss l) := by
  unfold dIss at h
  split at h
  · exact Wk.sl' (dIsL_wk h)
  · cases h
theorem dNet_wk {x : AV} {n : Net} (h : dNet x = some n) : Wk x (encNet n) := by
  unfold dNet at h
  split at h
  · split at h
    · rename_i h1 h2 h3 h4
      cases h
      refine Wk.agg' (WkL.cons ?_ (WkL.cons (dIss_wk h2) (WkL.cons (dIss_wk h3) (WkL.cons (dIs_wk h4) WkL.nil))))
      rw [dI_eq h1]; exact .refl _
    · cases h
  · cases h
/-- The results of the makers, at nets of up to twenty states. -/
def okN (n : Net) : Bool := n.rows.all (fun l => Nat.ble l.length 1000) && Nat.ble n.by_.length 20 && Nat.ble n.follow.length 20
def xMk (kd : Kd) : List AV → Option AV
  | [a, b] => match dNet a, dI b with
    | some n, some m => if okN n = true then some (encDE (resP kd n m)) else none
    | _, _ => none
  | _ => none
theorem xMk_ok {P : Program} {f : FuncId} {kd : Kd} (H : ∀ n m, okN n = true → PureC P f [encNet n, encI m] (encDE (resD kd n m))) {args : List AV} {r : AV} (h : xMk kd args = some r) : PureC P f args r := by
  unfold xMk at h
  split at h
  · split at h
    · rename_i n m h1 h2
      split at h
      · rename_i hk
        cases h
        rw [resP_eq]
        exact (H n m hk).wk (WkL.cons (dNet_wk h1) (WkL.cons (by rw [dI_eq h2]; exact .refl _) WkL.nil))
      · cases h
    · cases h
  · cases h
end Go.Rf


/- Own work: slices.Concat, of closed elements. -/
set_option linter.unusedVariables false
namespace Go.Rf
theorem Concat_pure {P : Program} (hm : P.follows .mixedOrders = true) {f fg : FuncId} {es by_ : Nat} {z : AV} (hg : HGrow P fg es z) (hb : by_ ≤ 1000) (h : Is P f (c_Concat es by_ fg) [2] 1) {X : Type} {enc : X → AV} (hcl : ∀ x, Closed (enc x)) (hce : ∀ x, (enc x).cells.length = es)
    (L : List (Bool × List X)) (hL : L.length ≤ 1000) (ht : (L.map fun p => p.2.length).sum ≤ 1000000) : PureC P f [.sl true (L.map fun p => .sl p.1 (p.2.map enc))] (.sl false ((L.flatMap (·.2)).map enc)) := by
  have e : AV.sl true (L.map fun p => AV.sl p.1 (p.2.map enc)) = catA (L.map fun p => (p.1, p.2.map enc)) := by simp [catA]
  rw [e]
  refine .of_callR (Concat_callR hm hg hb h (fun p hp x hx => ?_) (by simpa using hL) (by simpa [lenT, Function.comp_def] using ht) (fun v S' ho => ?_))
  · obtain ⟨q, hq, rfl⟩ := List.mem_map.mp hp
    obtain ⟨y, _, rfl⟩ := List.mem_map.mp hx
    exact hce y
  · obtain ⟨_, _, hv, _⟩ := ho
    have e2 : (L.map fun p => (p.1, p.2.map enc)).flatMap (·.2) = (L.flatMap (·.2)).map enc := by
      rw [List.flatMap_map, List.map_flatMap]
    rw [e2] at hv
    exact hv.fz hcl
end Go.Rf

