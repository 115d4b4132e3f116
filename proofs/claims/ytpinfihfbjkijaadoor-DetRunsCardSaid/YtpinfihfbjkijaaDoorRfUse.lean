import Derived.Test.YtpinfihfbjkijaaDoorRfSimp
set_option linter.unusedVariables false
set_option linter.unusedSimpArgs false
namespace Go.Rf
open Go.RowKit

/-- A program's function has this code, its results in these slots, and so many slots come filled. -/
def Is (P : Program) (f : FuncId) (ac : AC) (ts : List Nat) (n : Nat) : Prop :=
  ∃ fn c, P.funcs[f]? = some fn ∧ (fn.name == "runtime.NumGoroutine") = false ∧ fn.body = some c ∧ comp P fn.ntmps c = some ac ∧ fn.results = (ts.map ResultVar.tmp).toArray ∧ n ≤ fn.ntmps
theorem Is.callR {P : Program} (hm : P.follows .mixedOrders = true) {f : FuncId} {ac : AC} {ts : List Nat} {n : Nat} (h : Is P f ac ts n) {args : List AV} (hn : args.length = n) {S : St} {K : AV → St → Prop}
    (hb : AW P ac (RetK ts K) (argF args) S) : CallR P f args S K := by
  obtain ⟨fn, c, h1, h2, h3, h4, h5, h6⟩ := h
  exact .of_body hm h1 h2 h3 h4 h5 (by omega) hb
theorem Is.pure {P : Program} (hm : P.follows .mixedOrders = true) {f : FuncId} {ac : AC} {ts : List Nat} {n : Nat} (h : Is P f ac ts n) {args : List AV} (hn : args.length = n) {r : AV}
    (hb : AW P ac (RetK ts (FzK r)) (argF args) S0) : PureC P f args r :=
  .of_callR (h.callR hm hn hb)
def FzNK (r : AV) : AV → St → Prop := fun r' S' => FzN S'.g r' r
theorem Is.pureN {P : Program} (hm : P.follows .mixedOrders = true) {f : FuncId} {ac : AC} {ts : List Nat} {n : Nat} (h : Is P f ac ts n) {args : List AV} (hn : args.length = n) {r : AV}
    (hb : AW P ac (RetK ts (FzNK r)) (argF args) S0) : PureN P f args r :=
  .of_callR (h.callR hm hn hb)
/-! ### what is handed over, frozen -/
def FzL (g : Nat → Option Blk) (a b : List AV) : Prop := b.length = a.length ∧ ∀ j (h1 : j < a.length) (h2 : j < b.length), Fz g (a[j]) (b[j])
theorem FzL.nil {g : Nat → Option Blk} : FzL g [] [] := ⟨rfl, fun j h => by simp at h⟩
theorem FzL.cons {g : Nat → Option Blk} {x y : AV} {a b : List AV} (h : Fz g x y) (k : FzL g a b) : FzL g (x :: a) (y :: b) := by
  refine ⟨by simp [k.1], fun j h1 h2 => ?_⟩
  cases j with
  | zero => exact h
  | succ j => exact k.2 j (by simpa using h1) (by simpa using h2)
theorem FzL.closed {g : Nat → Option Blk} {a : List AV} (h : ∀ x ∈ a, Closed x) : FzL g a a := ⟨rfl, fun j h1 _ => .closed _ (h _ (List.getElem_mem h1))⟩
/-- All that is handed over is looked at; the result is plain. -/
theorem CallR.looks {P : Program} {f : FuncId} {args args' : List AV} {r : AV} (h : PureC P f args' r) {S : St} (hz : FzL S.g args args') (hr : Plain r) {K : AV → St → Prop} (hk : K r S) : CallR P f args S K :=
  .look h hz.1 hz.2 hr hk
theorem Fz.box {g : Nat → Option Blk} (id c es : Nat) (x z : AV) (hg : g id = some (.arr es [x])) (h : Fz g x z) : Fz g (.ptr id 0 c) (.eptr z c) := .ptr id 0 c es [x] z hg (Nat.zero_lt_one) h
theorem Fz.clo0 {g : Nat → Option Blk} {f : FuncId} {bs bs' : List AV} (h : FzL g bs bs') : Fz g (.clo f [] bs) (.clo f [] bs') := .clo f [] bs [] bs' rfl h.1 (fun i h => by simp at h) h.2
theorem only_g (F : List Nat) (g : Nat → Option Blk) (i : Nat) : only F g i = if i ∈ F then g i else none := by simp only [only]
/-- A contract for looser arguments serves tighter ones. -/
theorem PureC.weak {P : Program} {f : FuncId} {args args' : List AV} {r : AV} (h : PureC P f args' r) (hl : args'.length = args.length) (hr : ∀ j (h1 : j < args.length) (h2 : j < args'.length) (E : Env) (v : Value), Rep E (args[j]) v → Rep E (args'[j]) v) : PureC P f args r :=
  ⟨h.1, fun H w vals hH hv => h.2 H w vals hH ⟨by rw [hv.1, hl], fun j hj => hr j (by omega) hj _ _ (hv.2 j (by omega))⟩⟩
/-! ### encodings -/
def encIs (l : List Int) : AV := .sl false (l.map encI)
def encBs (l : List Bool) : AV := .sl false (l.map encB)
def encIss (l : List (List Int)) : AV := .sl false (l.map encIs)
theorem closed_I (n : Int) : Closed (encI n) := .v _
theorem closed_B (b : Bool) : Closed (encB b) := .v _
theorem closed_map {X : Type} {t : Bool} {enc : X → AV} (h : ∀ x, Closed (enc x)) (l : List X) : Closed (.sl t (l.map enc)) := .sl _ _ (by intro y hy; obtain ⟨x, _, rfl⟩ := List.mem_map.mp hy; exact h x)
theorem closed_Is (l : List Int) : Closed (encIs l) := closed_map closed_I l
theorem closed_Bs (l : List Bool) : Closed (encBs l) := closed_map closed_B l
theorem closed_Iss (l : List (List Int)) : Closed (encIss l) := closed_map closed_Is l
theorem plain_B (b : Bool) : Plain (encB b) := .v _
theorem plain_I (n : Int) : Plain (encI n) := .v _
theorem FzK_B (b : Bool) (S : St) : FzK (encB b) (.v (.bool b)) S := .closed _ (.v _)
theorem FzK_I (n : Int) (S : St) : FzK (encI n) (.v (.int .i64 n)) S := .closed _ (.v _)
/-- A length that a machine's memory has room for. -/
def Len {X : Type} (l : List X) : Prop := l.length ≤ 140737488351232
theorem cl_nil : ∀ y ∈ ([] : List AV), Closed y := by simp
theorem cl_cons {x : AV} {l : List AV} (h : Closed x) (k : ∀ y ∈ l, Closed y) : ∀ y ∈ x :: l, Closed y := by
  intro y hy
  rcases List.mem_cons.mp hy with rfl | hy
  · exact h
  · exact k y hy
/-! ### automata -/
structure Det where
  signs : Int
  next : List (List Int)
  fin : List Bool
  deriving DecidableEq
def encDet (d : Det) : AV := .agg [encI d.signs, encIss d.next, encBs d.fin]
theorem closed_Det (d : Det) : Closed (encDet d) := .agg _ (by
  intro y hy
  simp only [List.mem_cons, List.not_mem_nil, or_false] at hy
  rcases hy with rfl | rfl | rfl
  · exact closed_I _
  · exact closed_Iss _
  · exact closed_Bs _)
/-- What a machine's memory has room for. -/
structure DetOk (d : Det) : Prop where
  next : Len d.next
  fin : Len d.fin
  rows : ∀ r ∈ d.next, Len r
  signs : -9223372036854775808 ≤ d.signs ∧ d.signs ≤ 9223372036854775807
def rowOk (d : Det) (r : List Int) : Bool := decide ((r.length : Int) = d.signs) && r.all fun t => decide (0 ≤ t) && decide (t < d.next.length)
def rightD (d : Det) : Bool := decide (1 ≤ d.signs) && decide (d.signs ≤ 400) && decide (1 ≤ d.next.length) && decide (d.next.length ≤ 3000) && decide (d.fin.length = d.next.length) && d.next.all (rowOk d)
structure RightD (d : Det) : Prop where
  s1 : 1 ≤ d.signs
  s2 : d.signs ≤ 400
  n1 : 1 ≤ d.next.length
  n2 : d.next.length ≤ 3000
  fin : d.fin.length = d.next.length
  row : ∀ i (h : i < d.next.length), ((d.next[i]).length : Int) = d.signs
  at_ : ∀ i (h : i < d.next.length) j (k : j < (d.next[i]).length), 0 ≤ (d.next[i])[j] ∧ (d.next[i])[j] < d.next.length
theorem right_iff (d : Det) : rightD d = true ↔ RightD d := by
  simp only [rightD, Bool.and_eq_true, decide_eq_true_eq, List.all_eq_true, rowOk]
  constructor
  · rintro ⟨⟨⟨⟨⟨h1, h2⟩, h3⟩, h4⟩, h5⟩, h6⟩
    exact ⟨h1, h2, h3, h4, h5, fun i h => (h6 _ (List.getElem_mem h)).1, fun i h j k => (h6 _ (List.getElem_mem h)).2 _ (List.getElem_mem k)⟩
  · intro h
    refine ⟨⟨⟨⟨⟨h.s1, h.s2⟩, h.n1⟩, h.n2⟩, h.fin⟩, fun r hr => ?_⟩
    obtain ⟨i, hi, rfl⟩ := List.mem_iff_getElem.mp hr
    refine ⟨h.row i hi, fun t ht => ?_⟩
    obtain ⟨j, hj, rfl⟩ := List.mem_iff_getElem.mp ht
    exact h.at_ i hi j hj
def stepD (d : Det) (a : Nat) (s : Int) : Nat := ((d.next.getD a []).getD s.toNat 0).toNat
def runFrom (d : Det) : Nat → List Int → Option Nat
  | a, [] => some a
  | a, s :: l => if 0 ≤ s ∧ s < d.signs then runFrom d (stepD d a s) l else none
def runD (d : Det) (l : List Int) : Option Nat := if rightD d = true then runFrom d 0 l else none
def numO : Option Nat → Int
  | some a => a
  | none => -1
def accD (d : Det) (l : List Int) : Bool := match runD d l with
  | some a => d.fin.getD a false
  | none => false
theorem step_at {d : Det} (h : RightD d) {a : Nat} (ha : a < d.next.length) {s : Int} (h0 : 0 ≤ s) (hs : s < d.signs) :
    ∃ hj : s.toNat < (d.next[a]).length, (d.next[a])[s.toNat] = stepD d a s ∧ stepD d a s < d.next.length := by
  have hr := h.row a ha
  have hj : s.toNat < (d.next[a]).length := by omega
  have := h.at_ a ha s.toNat hj
  have e : stepD d a s = ((d.next[a])[s.toNat]).toNat := by
    simp [stepD, List.getD_eq_getElem?_getD, List.getElem?_eq_getElem ha, List.getElem?_eq_getElem hj]
  exact ⟨hj, by omega, by omega⟩
theorem runFrom_lt {d : Det} (h : RightD d) : ∀ (l : List Int) (a : Nat), a < d.next.length → ∀ b, runFrom d a l = some b → b < d.next.length
  | [], a, ha, b, e => by simp [runFrom] at e; omega
  | s :: l, a, ha, b, e => by
    simp only [runFrom] at e
    split at e
    · rename_i hs
      exact runFrom_lt h l _ (step_at h ha hs.1 hs.2).2.2 b e
    · cases e
end Go.Rf

