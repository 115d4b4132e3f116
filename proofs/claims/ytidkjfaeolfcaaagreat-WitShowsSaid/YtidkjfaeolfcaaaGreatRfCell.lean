import Derived.Test.YtidkjfaeolfcaaaGreatRfSimp
set_option linter.unusedVariables false
set_option linter.unusedSimpArgs false
namespace Go.Rf
open Go.RowKit

/-- A program's function has this code, its results in these slots, and so many slots come filled. -/
def Is (P : Program) (f : FuncId) (ac : AC) (ts : List Nat) (n : Nat) : Prop :=
  ∃ fn c, P.funcs[f]? = some fn ∧ (fn.name == "runtime.NumGoroutine") = false ∧ fn.body = some c ∧ comp P fn.ntmps c = some ac ∧ fn.results = (ts.map ResultVar.tmp).toArray ∧ n ≤ fn.ntmps
theorem Is.callR {P : Program} (hm : P.follows .mixedOrders = true) {f : FuncId} {ac : AC} {ts : List Nat} {n : Nat} (h : Is P f ac ts n) {args : List AV} (hn : args.length = n) {S : St} {K : AV → St → Prop}
    (hb : AW P ac (RetK ts K) (argF args) S) : CallR P f args S K := by
  obtain ⟨fn, c, h1, h2, h3, h4, h5, h6⟩ := h
  exact .of_body hm h1 h2 h3 h4 h5 (by omega) hb
theorem Is.pure {P : Program} (hm : P.follows .mixedOrders = true) {f : FuncId} {ac : AC} {ts : List Nat} {n : Nat} (h : Is P f ac ts n) {args : List AV} (hn : args.length = n) {r : AV}
    (hb : AW P ac (RetK ts (FzK r)) (argF args) S0) : PureC P f args r :=
  .of_callR (h.callR hm hn hb)
def FzNK (r : AV) : AV → St → Prop := fun r' S' => FzN S'.g r' r
theorem RetK_mono {ts : List Nat} {K K' : AV → St → Prop} (h : ∀ r S, K r S → K' r S) {e : Exit} {a : AF} {S : St} (k : RetK ts K e a S) : RetK ts K' e a S := by
  cases e <;> simp only [RetK] at k ⊢ <;> first | exact h _ _ k | exact k
/-! ### what is handed over, frozen -/
def FzL (g : Nat → Option Blk) (a b : List AV) : Prop := b.length = a.length ∧ ∀ j (h1 : j < a.length) (h2 : j < b.length), Fz g (a[j]) (b[j])
theorem FzL.nil {g : Nat → Option Blk} : FzL g [] [] := ⟨rfl, fun j h => by simp at h⟩
theorem FzL.cons {g : Nat → Option Blk} {x y : AV} {a b : List AV} (h : Fz g x y) (k : FzL g a b) : FzL g (x :: a) (y :: b) := by
  refine ⟨by simp [k.1], fun j h1 h2 => ?_⟩
  cases j with
  | zero => exact h
  | succ j => exact k.2 j (by simpa using h1) (by simpa using h2)
theorem FzL.closed {g : Nat → Option Blk} {a : List AV} (h : ∀ x ∈ a, Closed x) : FzL g a a := ⟨rfl, fun j h1 _ => .closed _ (h _ (List.getElem_mem h1))⟩
/-- All that is handed over is looked at; the result is plain. -/
theorem CallR.looks {P : Program} {f : FuncId} {args args' : List AV} {r : AV} (h : PureC P f args' r) {S : St} (hz : FzL S.g args args') (hr : Plain r) {K : AV → St → Prop} (hk : K r S) : CallR P f args S K :=
  .look h hz.1 hz.2 hr hk
def St.lose (S : St) (ids : List Nat) : St := ⟨S.n, fun i => if i ∈ ids then none else S.g i⟩
/-- Some blocks are given away with the call; the result may hold on to them. -/
theorem CallR.gives {P : Program} {f : FuncId} {args args' : List AV} {r : AV} (ids : List Nat) (h : PureC P f args' r) {S : St} (hz : FzL (only ids S.g) args args') (hr : Closed r) {K : AV → St → Prop} (hk : K r (S.lose ids)) : CallR P f args S K :=
  .pure_gen h (only ids S.g) only_sub (S.lose ids) rfl (fun i k e => by simp only [St.lose] at e; split at e <;> first | cases e | exact e) hz.1 hz.2
    (.inr ⟨hr, fun i k e => by simp only [only] at e; simp only [St.lose]; split at e <;> simp_all⟩) hk
theorem Fz.box {g : Nat → Option Blk} (id c es : Nat) (x z : AV) (hg : g id = some (.arr es [x])) (h : Fz g x z) : Fz g (.ptr id 0 c) (.eptr z c) := .ptr id 0 c es [x] z hg (Nat.zero_lt_one) h
theorem Fz.clo0 {g : Nat → Option Blk} {f : FuncId} {bs bs' : List AV} (h : FzL g bs bs') : Fz g (.clo f [] bs) (.clo f [] bs') := .clo f [] bs [] bs' rfl h.1 (fun i h => by simp at h) h.2
theorem lose_g {S : St} (ids : List Nat) (i : Nat) : (S.lose ids).g i = if i ∈ ids then none else S.g i := by simp only [St.lose]
theorem only_g (F : List Nat) (g : Nat → Option Blk) (i : Nat) : only F g i = if i ∈ F then g i else none := by simp only [only]
/-- A contract for looser arguments serves tighter ones. -/
theorem PureC.weak {P : Program} {f : FuncId} {args args' : List AV} {r : AV} (h : PureC P f args' r) (hl : args'.length = args.length) (hr : ∀ j (h1 : j < args.length) (h2 : j < args'.length) (E : Env) (v : Value), Rep E (args[j]) v → Rep E (args'[j]) v) : PureC P f args r :=
  ⟨h.1, fun H w vals hG hH hv => h.2 H w vals hG hH ⟨by rw [hv.1, hl], fun j hj => hr j (by omega) hj _ _ (hv.2 j (by omega))⟩⟩
theorem PureC.tight1 {P : Program} {f : FuncId} {t : Bool} {xs : List AV} {r : AV} (h : PureC P f [.sl false xs] r) : PureC P f [.sl t xs] r :=
  h.weak rfl (fun j h1 h2 E v hv => by
    have : j = 0 := by simpa using h1
    subst this; exact hv.loose)
/-! ### encodings -/
def encIs (l : List Int) : AV := .sl false (l.map encI)
def encBs (l : List Bool) : AV := .sl false (l.map encB)
def encIss (l : List (List Int)) : AV := .sl false (l.map encIs)
theorem Z2r (n : Int) : Closed (encI n) := .v _
theorem Z2o (b : Bool) : Closed (encB b) := .v _
theorem closed_map {X : Type} {t : Bool} {enc : X → AV} (h : ∀ x, Closed (enc x)) (l : List X) : Closed (.sl t (l.map enc)) := .sl _ _ (by intro y hy; obtain ⟨x, _, rfl⟩ := List.mem_map.mp hy; exact h x)
theorem Z2s (l : List Int) : Closed (encIs l) := closed_map Z2r l
theorem Z2p (l : List Bool) : Closed (encBs l) := closed_map Z2o l
theorem Z2t (l : List (List Int)) : Closed (encIss l) := closed_map Z2s l
theorem fz_I {g : Nat → Option Blk} (n : Int) : Fz g (.v (.int .i64 n)) (encI n) := .closed _ (.v _)
theorem plain_B (b : Bool) : Plain (encB b) := .v _
theorem FzK_B (b : Bool) (S : St) : FzK (encB b) (.v (.bool b)) S := .closed _ (.v _)
theorem FzK_I (n : Int) (S : St) : FzK (encI n) (.v (.int .i64 n)) S := .closed _ (.v _)
/-- A length that a machine's memory has room for. -/
def Len {X : Type} (l : List X) : Prop := l.length ≤ 140737488351232
theorem cl_nil : ∀ y ∈ ([] : List AV), Closed y := by simp
theorem cl_cons {x : AV} {l : List AV} (h : Closed x) (k : ∀ y ∈ l, Closed y) : ∀ y ∈ x :: l, Closed y := by
  intro y hy
  rcases List.mem_cons.mp hy with rfl | hy
  · exact h
  · exact k y hy
/-! ### automata -/
structure Det where
  signs : Int
  next : List (List Int)
  fin : List Bool
  deriving DecidableEq
def encDet (d : Det) : AV := .agg [encI d.signs, encIss d.next, encBs d.fin]
theorem closed_Det (d : Det) : Closed (encDet d) := .agg _ (by
  intro y hy
  simp only [List.mem_cons, List.not_mem_nil, or_false] at hy
  rcases hy with rfl | rfl | rfl
  · exact Z2r _
  · exact Z2t _
  · exact Z2p _)
/-- What a machine's memory has room for. -/
structure DetOk (d : Det) : Prop where
  next : Len d.next
  fin : Len d.fin
  rows : ∀ r ∈ d.next, Len r
  signs : -9223372036854775808 ≤ d.signs ∧ d.signs ≤ 9223372036854775807
def rowOk (d : Det) (r : List Int) : Bool := decide ((r.length : Int) = d.signs) && r.all fun t => decide (0 ≤ t) && decide (t < d.next.length)
def rightD (d : Det) : Bool := decide (1 ≤ d.signs) && decide (d.signs ≤ 400) && decide (1 ≤ d.next.length) && decide (d.next.length ≤ 3000) && decide (d.fin.length = d.next.length) && d.next.all (rowOk d)
structure RightD (d : Det) : Prop where
  s1 : 1 ≤ d.signs
  s2 : d.signs ≤ 400
  n1 : 1 ≤ d.next.length
  n2 : d.next.length ≤ 3000
  fin : d.fin.length = d.next.length
  row : ∀ i (h : i < d.next.length), ((d.next[i]).length : Int) = d.signs
  at_ : ∀ i (h : i < d.next.length) j (k : j < (d.next[i]).length), 0 ≤ (d.next[i])[j] ∧ (d.next[i])[j] < d.next.length
theorem right_iff (d : Det) : rightD d = true ↔ RightD d := by
  simp only [rightD, Bool.and_eq_true, decide_eq_true_eq, List.all_eq_true, rowOk]
  constructor
  · rintro ⟨⟨⟨⟨⟨h1, h2⟩, h3⟩, h4⟩, h5⟩, h6⟩
    exact ⟨h1, h2, h3, h4, h5, fun i h => (h6 _ (List.getElem_mem h)).1, fun i h j k => (h6 _ (List.getElem_mem h)).2 _ (List.getElem_mem k)⟩
  · intro h
    refine ⟨⟨⟨⟨⟨h.s1, h.s2⟩, h.n1⟩, h.n2⟩, h.fin⟩, fun r hr => ?_⟩
    obtain ⟨i, hi, rfl⟩ := List.mem_iff_getElem.mp hr
    refine ⟨h.row i hi, fun t ht => ?_⟩
    obtain ⟨j, hj, rfl⟩ := List.mem_iff_getElem.mp ht
    exact h.at_ i hi j hj
def stepD (d : Det) (a : Nat) (s : Int) : Nat := ((d.next.getD a []).getD s.toNat 0).toNat
def runFrom (d : Det) : Nat → List Int → Option Nat
  | a, [] => some a
  | a, s :: l => if 0 ≤ s ∧ s < d.signs then runFrom d (stepD d a s) l else none
def runD (d : Det) (l : List Int) : Option Nat := if rightD d = true then runFrom d 0 l else none
def numO : Option Nat → Int
  | some a => a
  | none => -1
def accD (d : Det) (l : List Int) : Bool := match runD d l with
  | some a => d.fin.getD a false
  | none => false
theorem step_at {d : Det} (h : RightD d) {a : Nat} (ha : a < d.next.length) {s : Int} (h0 : 0 ≤ s) (hs : s < d.signs) :
    ∃ hj : s.toNat < (d.next[a]).length, (d.next[a])[s.toNat] = stepD d a s ∧ stepD d a s < d.next.length := by
  have hr := h.row a ha
  have hj : s.toNat < (d.next[a]).length := by omega
  have := h.at_ a ha s.toNat hj
  have e : stepD d a s = ((d.next[a])[s.toNat]).toNat := by
    simp [stepD, List.getD_eq_getElem?_getD, List.getElem?_eq_getElem ha, List.getElem?_eq_getElem hj]
  exact ⟨hj, by omega, by omega⟩
theorem runFrom_lt {d : Det} (h : RightD d) : ∀ (l : List Int) (a : Nat), a < d.next.length → ∀ b, runFrom d a l = some b → b < d.next.length
  | [], a, ha, b, e => by simp [runFrom] at e; omega
  | s :: l, a, ha, b, e => by
    simp only [runFrom] at e
    split at e
    · rename_i hs
      exact runFrom_lt h l _ (step_at h ha hs.1 hs.2).2.2 b e
    · cases e
end Go.Rf


set_option linter.unusedVariables false
set_option linter.unusedSimpArgs false
namespace Go.Rf
open Go.RowKit

/-! ### a list that grows, or is shortened from its beginning -/
def AV.ids : AV → List Nat
  | .own id _ _ => [id]
  | _ => []
/-- v is a list of one's own, up to its block's end: these are its elements. -/
def Vec (g : Nat → Option Blk) (v : AV) (es : Nat) (xs : List AV) : Prop :=
  (v = .sl true [] ∧ xs = []) ∨ ∃ id off ys, v = .own id off xs.length ∧ g id = some (.arr es ys) ∧ off ≤ ys.length ∧ ys.drop off = xs
def ptrAt (v : AV) (i : Nat) : AV :=
  match v with
  | .own id off _ => .ptr id (off + i) 0
  | _ => .junk
def St.without (S : St) (v : AV) : St :=
  match v with
  | .own id _ _ => S.set id none
  | _ => S
def St.setAt (S : St) (v : AV) (i : Nat) (x : AV) : St :=
  match v with
  | .own id off _ => match S.g id with
    | some (.arr es ys) => S.set id (some (.arr es (ys.set (off + i) x)))
    | _ => S
  | _ => S
theorem without_g {S : St} {v : AV} (j : Nat) (hj : j ∉ v.ids) : (S.without v).g j = S.g j := by
  cases v <;> simp_all [St.without, AV.ids, Z4e]
section
variable {g : Nat → Option Blk} {n : Nat} {v : AV} {es : Nat} {xs : List AV} {nid : Nat}
theorem Vec.nil : Vec g (.sl true []) es [] := .inl ⟨rfl, rfl⟩
theorem Vec.mk {id : Nat} (h : g id = some (.arr es xs)) : Vec g (.own id 0 xs.length) es xs := .inr ⟨id, 0, xs, rfl, h, by simp, by simp⟩
theorem Vec.mk' {id m : Nat} (h : g id = some (.arr es xs)) (hm : m = xs.length) : Vec g (.own id 0 m) es xs := hm ▸ Vec.mk h
theorem Vec.frame {g' : Nat → Option Blk} (h : Vec g v es xs) (hs : ∀ i ∈ v.ids, g' i = g i) : Vec g' v es xs := by
  rcases h with h | ⟨id, off, ys, rfl, h1, h2, h3⟩
  · exact .inl h
  · exact .inr ⟨id, off, ys, rfl, by rw [hs id (by simp [AV.ids])]; exact h1, h2, h3⟩
theorem Vec.live (h : Vec g v es xs) : ∀ i ∈ v.ids, ∃ ys, g i = some (.arr es ys) := by
  rcases h with ⟨rfl, _⟩ | ⟨id, off, ys, rfl, h1, h2, h3⟩
  · simp [AV.ids]
  · simp [AV.ids, h1]
theorem Vec.len (h : Vec g v es xs) : exLen v = some (.v (.int .i64 xs.length)) := by
  rcases h with ⟨rfl, rfl⟩ | ⟨id, off, ys, rfl, h1, h2, h3⟩ <;> simp [exLen]
theorem Vec.load (h : Vec g v es xs) (i : Nat) (hi : i < xs.length) (hc : (xs[i]).cells = [xs[i]]) : (exLoad none (ptrAt v i)).run ⟨n, g⟩ nid = some (xs[i], ⟨n, g⟩) := by
  rcases h with ⟨rfl, rfl⟩ | ⟨id, off, ys, rfl, h1, h2, h3⟩
  · simp at hi
  · have hl : off + xs.length = ys.length := by rw [← h3]; simp; omega
    have hg : ys[off + i]? = some xs[i] := by
      subst h3
      rw [List.getElem_drop]
      exact List.getElem?_eq_getElem (by omega)
    simp [exLoad, ptrAt, h1, hg, subc, hc]
theorem Vec.store {x : AV} (h : Vec g v 1 xs) (i : Nat) (hi : i < xs.length) (hx : x.solid = true) (hc : x.cells.length = 1) (hy : (xs[i]).cells.length = 1) :
    (exStore 1 (ptrAt v i) x).run ⟨n, g⟩ nid = some (.junk, St.setAt ⟨n, g⟩ v i x) ∧ Vec (St.setAt ⟨n, g⟩ v i x).g v 1 (xs.set i x) ∧ (∀ j, j ∉ v.ids → (St.setAt ⟨n, g⟩ v i x).g j = g j) ∧ (St.setAt ⟨n, g⟩ v i x).n = n := by
  rcases h with ⟨rfl, rfl⟩ | ⟨id, off, ys, rfl, h1, h2, h3⟩
  · simp at hi
  · have hl : off + xs.length = ys.length := by rw [← h3]; simp; omega
    have hg : ys[off + i]? = some xs[i] := by
      subst h3
      rw [List.getElem_drop]
      exact List.getElem?_eq_getElem (by omega)
    refine ⟨?_, .inr ⟨id, off, ys.set (off + i) x, by simp, by simp [St.setAt, h1, Z4e], by simpa using h2, ?_⟩, fun j hj => ?_, ?_⟩
    · simp [exStore, ptrAt, h1, hg, hx, hc, hy, putc, St.setAt]
    · rw [← h3, List.drop_set, if_neg (by omega)]
      congr 1; omega
    · simp only [AV.ids, List.mem_singleton] at hj
      simp [St.setAt, h1, Z4e, hj]
    · simp [St.setAt, h1, Z4f]
theorem Vec.tail (h : Vec g v es xs) (k : IntKind) (hp : 0 < xs.length) : ∃ v', (exSlc es v (some (.v (.int k 1))) none).run ⟨n, g⟩ nid = some (v', ⟨n, g⟩) ∧ Vec g v' es xs.tail ∧ v'.ids = v.ids := by
  rcases h with ⟨rfl, rfl⟩ | ⟨id, off, ys, rfl, h1, h2, h3⟩
  · simp at hp
  · have hl : off + xs.length = ys.length := by rw [← h3]; simp; omega
    refine ⟨.own id (off + 1) (xs.length - 1), ?_, .inr ⟨id, off + 1, ys, by simp, h1, by omega, ?_⟩, rfl⟩
    · simp [exSlc, h1, bnd]
      exact List.ne_nil_of_length_pos hp
    · rw [← h3, List.tail_drop]
theorem Vec.app {x : AV} {by_ : Nat} (h : Vec g v es xs) (hes : ∀ z ∈ xs, z.cells.length = es) (hx : x.cells.length = es) (hok : appOk by_ xs.length 1) :
    (exApp es by_ v (.sl true [x])).run ⟨n, g⟩ nid = some (.own nid 0 (xs.length + 1), (St.without ⟨n, g⟩ v).set nid (some (.arr es (xs ++ [x])))) := by
  rcases h with ⟨rfl, rfl⟩ | ⟨id, off, ys, rfl, h1, h2, h3⟩
  · simp only [List.length_nil] at hok
    simp [exApp, Eff.run, AV.oid, lstE, hx, hok, St.without, St.setL, St.setO]
  · have hl : off + xs.length = ys.length := by rw [← h3]; simp; omega
    simp [exApp, Eff.run, AV.oid, lstE, hx, hok, St.without, St.setL, St.setO, h1, hl, h3]
/-- A list of plain elements, handed out. -/
theorem Vec.fz {X : Type} {enc : X → AV} {l : List X} (h : Vec g v es (l.map enc)) (hc : ∀ x, Closed (enc x)) : Fz g v (.sl false (l.map enc)) := by
  rcases h with ⟨rfl, h0⟩ | ⟨id, off, ys, rfl, h1, h2, h3⟩
  · rw [h0]; exact .loose true [] (.sl _ _ (by simp))
  · have hl : off + (l.map enc).length = ys.length := by rw [← h3]; simp; omega
    have ht : (ys.drop off).take (l.map enc).length = l.map enc := by rw [h3, List.take_length]
    refine .own id off _ es ys _ h1 (by omega) rfl (fun i h1 h2 => ?_)
    simp only [ht]
    refine .closed _ ?_
    rw [List.getElem_map]; exact hc _
end
/-- .. and new. -/
theorem Vec.fzN {g : Nat → Option Blk} {v : AV} {es : Nat} {l : List Int} (h : Vec g v es (l.map encI)) : FzN g v (.sl false (l.map encI)) := by
  rcases h with ⟨rfl, h0⟩ | ⟨id, off, ys, rfl, h1, h2, h3⟩
  · rw [h0]; exact .nil true false (by simp)
  · have hl : off + (l.map encI).length = ys.length := by rw [← h3]; simp; omega
    have ht : (ys.drop off).take (l.map encI).length = l.map encI := by rw [h3, List.take_length]
    refine .own id off _ es ys _ h1 (by omega) rfl (fun i h1 h2 => ?_)
    simp only [ht]
    rw [List.getElem_map]; exact .v _
theorem cells_I (l : List Int) : ∀ z ∈ l.map encI, z.cells.length = 1 := by
  intro z hz; obtain ⟨n, _, rfl⟩ := List.mem_map.mp hz; rfl
theorem appOk8 {n : Nat} (h : n ≤ 1000000000000) : appOk 8 n 1 := by unfold appOk; omega
/-! ### several lists that grow, apart from one another, and from the blocks av -/
structure Rows (g : Nat → Option Blk) (n : Nat) (av : List Nat) (vs : List AV) (ls : List (List Int)) : Prop where
  len : vs.length = ls.length
  row : ∀ t (h : t < vs.length) (h' : t < ls.length), Vec g vs[t] 1 ((ls[t]).map encI)
  sep : vs.Pairwise (fun a b => ∀ i ∈ a.ids, i ∉ b.ids)
  out : ∀ v ∈ vs, ∀ i ∈ v.ids, i < n ∧ i ∉ av
theorem Rows.frame {g g' : Nat → Option Blk} {n n' : Nat} {av : List Nat} {vs : List AV} {ls : List (List Int)} (h : Rows g n av vs ls) (hn : n ≤ n') (hg : ∀ i, i < n → i ∉ av → g' i = g i) : Rows g' n' av vs ls :=
  ⟨h.len, fun t h1 h2 => (h.row t h1 h2).frame (fun i hi => hg i (h.out _ (List.getElem_mem h1) i hi).1 (h.out _ (List.getElem_mem h1) i hi).2), h.sep, fun v hv i hi => ⟨Nat.lt_of_lt_of_le (h.out v hv i hi).1 hn, (h.out v hv i hi).2⟩⟩
theorem Rows.other {g : Nat → Option Blk} {n : Nat} {av : List Nat} {vs : List AV} {ls : List (List Int)} (h : Rows g n av vs ls) {t u : Nat} (ht : t < vs.length) (hu : u < vs.length) (hne : t ≠ u) : ∀ i ∈ vs[t].ids, i ∉ vs[u].ids := by
  have hp := List.pairwise_iff_getElem.mp h.sep
  rcases Nat.lt_or_ge t u with h1 | h1
  · exact hp t u ht hu h1
  · intro i hi hi2
    exact hp u t hu ht (by omega) i hi2 hi
/-- One of them is another one, in a block of its own, or none. -/
theorem Rows.upd {g g' : Nat → Option Blk} {n n' : Nat} {av : List Nat} {vs : List AV} {ls : List (List Int)} (h : Rows g n av vs ls) {t : Nat} (ht : t < vs.length) {v : AV} {l : List Int} (hv : Vec g' v 1 (l.map encI)) (hn : n ≤ n')
    (hid : ∀ i ∈ v.ids, i < n' ∧ i ∉ av ∧ (i ∈ vs[t].ids ∨ n ≤ i)) (hg : ∀ i, i < n → i ∉ av → i ∉ vs[t].ids → g' i = g i) : Rows g' n' av (vs.set t v) (ls.set t l) := by
  refine ⟨by simp [h.len], fun u h1 h2 => ?_, ?_, fun w hw i hi => ?_⟩
  · simp only [List.length_set] at h1 h2
    rw [List.getElem_set, List.getElem_set]
    by_cases hu : t = u
    · rw [if_pos hu, if_pos hu]; exact hv
    · rw [if_neg hu, if_neg hu]
      refine (h.row u h1 h2).frame fun i hi => ?_
      obtain ⟨o1, o2⟩ := h.out _ (List.getElem_mem h1) i hi
      exact hg i o1 o2 (fun h3 => h.other ht h1 hu i h3 hi)
  · rw [List.pairwise_iff_getElem]
    intro a b ha hb hab i hi
    simp only [List.length_set] at ha hb
    rw [List.getElem_set] at hi ⊢
    by_cases h1 : t = a
    · rw [if_pos h1] at hi
      rw [if_neg (by omega)]
      rcases (hid i hi).2.2 with h3 | h3
      · exact h.other ht hb (by omega) i h3
      · intro h4; have := (h.out _ (List.getElem_mem hb) i h4).1; omega
    · rw [if_neg h1] at hi
      by_cases h2 : t = b
      · rw [if_pos h2]
        intro h4
        rcases (hid i h4).2.2 with h3 | h3
        · exact h.other ht ha h1 i h3 hi
        · have := (h.out _ (List.getElem_mem ha) i hi).1; omega
      · rw [if_neg h2]
        exact h.other ha hb (by omega) i hi
  · rcases List.mem_or_eq_of_mem_set hw with hw | rfl
    · obtain ⟨o1, o2⟩ := h.out w hw i hi; exact ⟨by omega, o2⟩
    · exact ⟨(hid i hi).1, (hid i hi).2.1⟩
/-- One of them grows. -/
theorem Rows.app {g : Nat → Option Blk} {n m : Nat} {av : List Nat} {vs : List AV} {ls : List (List Int)} (h : Rows g n av vs ls) {t : Nat} (ht : t < vs.length) (ht' : t < ls.length) (x : Int) {nid : Nat} (h1 : n ≤ nid) (h2 : nid < m) (h3 : nid ∉ av) :
    Rows ((St.without ⟨m, g⟩ vs[t]).set nid (some (.arr 1 ((ls[t]).map encI ++ [encI x])))).g m av (vs.set t (.own nid 0 ((ls[t]).length + 1))) (ls.set t (ls[t] ++ [x])) := by
  refine h.upd ht (.mk' (by simp [Z4e]) (by simp)) (by omega) (fun i hi => ?_) (fun i h4 h5 h6 => ?_)
  · simp only [AV.ids, List.mem_singleton] at hi
    subst hi
    exact ⟨h2, h3, .inr h1⟩
  · rw [Z4e, if_neg (by omega), without_g i h6]
theorem Rows.av {g : Nat → Option Blk} {n m : Nat} {av : List Nat} {vs : List AV} {ls : List (List Int)} (h : Rows g n av vs ls) {t : Nat} (ht : t < vs.length) {nid : Nat} (b : Option Blk) {i : Nat} (hi : i ∈ av) (hne : i ≠ nid) :
    ((St.without ⟨m, g⟩ vs[t]).set nid b).g i = g i := by
  rw [Z4e, if_neg hne, without_g i (fun h6 => (h.out _ (List.getElem_mem ht) i h6).2 hi)]
end Go.Rf


/- Own work: functions whose results lie in cells. -/
set_option linter.unusedVariables false
set_option linter.unusedSimpArgs false
namespace Go.Rf
open Go.RowKit

inductive RV where
  | t (i : Nat)
  | c (i : Nat) (k : Option Nat)
def rvOf (P : Program) : ResultVar → Option RV
  | .tmp t => some (.t t)
  | .cell a t => (kindOf P t).map (.c a)
def ldC (k : Option Nat) (g : Nat → Option Blk) : AV → Option AV
  | .ptr id ix c => match g id with
    | some (.arr _ xs) => (xs[ix]?).bind fun x => subc k x c
    | _ => none
  | _ => none
def RV.ev (a : AF) (g : Nat → Option Blk) : RV → Option AV
  | .t i => some (a i)
  | .c i k => ldC k g (a i)
def evC (a : AF) (g : Nat → Option Blk) : List RV → Option (List AV)
  | [] => some []
  | r :: rs => (r.ev a g).bind fun x => (evC a g rs).map (x :: ·)
def packC : List AV → AV
  | [x] => x
  | xs => .tup xs
def RetC (rs : List RV) (K : AV → St → Prop) : Exit → AF → St → Prop
  | .ret, a, S => ∃ xs, evC a S.g rs = some xs ∧ K (packC xs) S
  | .normal, a, S => ∃ xs, evC a S.g rs = some xs ∧ K (packC xs) S
  | _, _, _ => False
theorem run_ldC {P : Program} {E : Env} {S : St} {w : World} (hS : Sim E S w) {t : TypeId} {k : Option Nat} (hk : kindOf P t = some k) {p x : AV} {u : Value} (r : Rep E p u) (h : ldC k S.g p = some x) :
    ∃ val, (do loadVar t (← asAddr u) : Sem Value).run P w = .ok val w ∧ Rep E x val := by
  cases p <;> simp only [ldC] at h
  all_goals (try (cases h))
  rename_i id ix c
  cases r with
  | ptr _ _ _ l hl =>
    split at h
    · rename_i es xs hg
      cases hxi : xs[ix]? with
      | none => rw [hxi] at h; simp at h
      | some y =>
        rw [hxi] at h
        simp only [Option.bind_some] at h
        obtain ⟨l', e, hN, h2, h3, h4, h5, cs, el, h6, h7, h8⟩ := hS.live id _ hg
        rw [hl] at e; cases e
        obtain ⟨hixl, hye⟩ := List.getElem?_eq_some_iff.mp hxi
        have hfl := flat_at h4 ix hixl
        have hcells : ∀ j (hj : j < y.cells.length), ∃ u, cs[l.o + ix * l.es + j]? = some u ∧ Rep E (y.cells[j]) u := by
          intro j hj
          subst hye
          obtain ⟨hk', e⟩ := hfl j hj
          obtain ⟨u, a1, a2⟩ := h8 _ hk'
          rw [e] at a2
          refine ⟨u, ?_, a2⟩
          rw [h2, Nat.add_assoc]; exact a1
        have hat : ∀ z ∈ y.cells, z.atom = true := by
          intro z hz
          refine h5 z ?_
          simp only [flat, List.mem_flatMap]
          exact ⟨y, by rw [← hye]; exact List.getElem_mem hixl, hz⟩
        obtain ⟨val, h9, h10⟩ := run_loadVar (P := P) hk h h6 hat hcells
        exact ⟨val, by simp only [Sem.run_bind]; exact h9, h10⟩
    · cases h
theorem run_resultsC {P : Program} {fn : Func} {E : Env} {S : St} {w : World} (hS : Sim E S w) {n : Nat} {a : AF} {act : Act} (hF : RepF E n a act) {rs : List RV} (hr : fn.results.toList.mapM (rvOf P) = some rs) {xs : List AV} (hx : evC a S.g rs = some xs) :
    ∃ val, (results fn act.tmps).run P w = .ok val w ∧ Rep E (packC xs) val := by
  have hm : ∀ (l : List ResultVar) (rs : List RV) (xs : List AV), l.mapM (rvOf P) = some rs → evC a S.g rs = some xs → ∃ vals : List Value, (l.mapM (fun
      | .tmp t => pure (act.tmps.getD t undef)
      | .cell a t => do loadVar t (← asAddr (act.tmps.getD a undef)) : ResultVar → Sem Value)).run P w = .ok vals w ∧ vals.length = xs.length ∧ ∀ j (h : j < xs.length), Rep E (xs[j]) (vals.getD j undef) := by
    intro l
    induction l with
    | nil => intro rs xs h1 h2; simp at h1; subst h1; simp [evC] at h2; subst h2; exact ⟨[], rfl, rfl, by simp⟩
    | cons q l ih =>
      intro rs xs h1 h2
      simp only [List.mapM_cons, Option.bind_eq_bind, Option.bind_eq_some_iff, Option.pure_def, Option.some.injEq] at h1
      obtain ⟨y, hy, zs, hz, rfl⟩ := h1
      simp only [evC, Option.bind_eq_some_iff, Option.map_eq_some_iff] at h2
      obtain ⟨x, hx, us, hu, rfl⟩ := h2
      obtain ⟨vals, g1, g2, g3⟩ := ih _ _ hz hu
      have key : ∀ val, (match q with
          | .tmp t => pure (act.tmps.getD t undef)
          | .cell a t => do loadVar t (← asAddr (act.tmps.getD a undef)) : Sem Value).run P w = .ok val w → Rep E x val → ∃ vals : List Value, ((q :: l).mapM (fun
        | .tmp t => pure (act.tmps.getD t undef)
        | .cell a t => do loadVar t (← asAddr (act.tmps.getD a undef)) : ResultVar → Sem Value)).run P w = .ok vals w ∧ vals.length = (x :: us).length ∧ ∀ j (h : j < (x :: us).length), Rep E ((x :: us)[j]) (vals.getD j undef) := by
        intro val k1 k2
        refine ⟨val :: vals, ?_, by simp [g2], fun j hj => ?_⟩
        · simp only [List.mapM_cons, Sem.run_bind]
          rw [k1]
          simp only [Result.andThen_ok]
          rw [g1]
          rfl
        · cases j with
          | zero => simpa using k2
          | succ j => simpa using g3 j (by simpa using hj)
      cases q with
      | tmp t =>
        simp only [rvOf, Option.some.injEq] at hy
        subst hy
        simp only [RV.ev, Option.some.injEq] at hx
        subst hx
        exact key _ rfl (hF.at_ t)
      | cell c t =>
        simp only [rvOf, Option.map_eq_some_iff] at hy
        obtain ⟨k, hk, rfl⟩ := hy
        simp only [RV.ev] at hx
        obtain ⟨val, k1, k2⟩ := run_ldC hS hk (hF.at_ c) hx
        exact key val k1 k2
  obtain ⟨vals, g1, g2, g3⟩ := hm _ _ _ hr hx
  unfold results
  rw [Array.mapM_eq_mapM_toList, map_eq_pure_bind]
  simp only [Sem.run_bind]
  erw [g1]
  simp only [Result.andThen_ok]
  match xs, vals, g2 with
  | [], [], _ => exact ⟨_, rfl, .tup _ _ (by simp) (by simp)⟩
  | [x], [v], _ => exact ⟨v, rfl, by simpa [packC] using g3 0 (by simp)⟩
  | x :: y :: xs, v :: u :: vals, g2 =>
    refine ⟨.tuple (v :: u :: vals).toArray, ?_, ?_⟩
    · show Result.ok (if h : _ then _ else _) w = _
      rw [dif_neg (by simp)]
    · refine .tup _ _ (by simp at g2 ⊢; omega) (fun j hj => ?_)
      have := g3 j hj
      simpa [Array.getD_eq_getD_getElem?, List.getD_eq_getElem?_getD] using this
def IsC (P : Program) (f : FuncId) (ac : AC) (rs : List RV) (n : Nat) : Prop :=
  ∃ fn c, P.funcs[f]? = some fn ∧ (fn.name == "runtime.NumGoroutine") = false ∧ fn.body = some c ∧ comp P fn.ntmps c = some ac ∧ fn.results.toList.mapM (rvOf P) = some rs ∧ n ≤ fn.ntmps
theorem IsC.callR {P : Program} (hm : P.follows .mixedOrders = true) {f : FuncId} {ac : AC} {rs : List RV} {n : Nat} (h : IsC P f ac rs n) {args : List AV} (hn : args.length = n) {S : St} {K : AV → St → Prop}
    (hb : AW P ac (RetC rs K) (argF args) S) : CallR P f args S K := by
  obtain ⟨fn, c, hf, hnm, hbd, hc, hr, h6⟩ := h
  refine ⟨callable_of hf hnm hbd, fun E w vals hG hS hv => ?_⟩
  refine calls_of_wp hf hbd (wp_mono (aw_sound hm ac c hc _ _ _ hb E w _ hG hS (repF_args hv (by omega))) fun e act w' hp => ?_)
  obtain ⟨a, S', E', q, s, r, ev⟩ := hp
  cases e <;> simp only [RetC] at q
  · obtain ⟨xs, q1, q2⟩ := q
    obtain ⟨val, k1, k2⟩ := run_resultsC (P := P) (fn := fn) s r hr q1
    exact ⟨r.defers, _, k1, _, _, S', E', rfl, q2, s, k2, ev⟩
  · obtain ⟨xs, q1, q2⟩ := q
    obtain ⟨val, k1, k2⟩ := run_resultsC (P := P) (fn := fn) s r hr q1
    exact ⟨r.defers, _, k1, _, _, S', E', rfl, q2, s, k2, ev⟩
theorem IsC.pure {P : Program} (hm : P.follows .mixedOrders = true) {f : FuncId} {ac : AC} {rs : List RV} {n : Nat} (h : IsC P f ac rs n) {args : List AV} (hn : args.length = n) {r : AV}
    (hb : AW P ac (RetC rs (FzK r)) (argF args) S0) : PureC P f args r :=
  .of_callR (h.callR hm hn hb)
end Go.Rf

