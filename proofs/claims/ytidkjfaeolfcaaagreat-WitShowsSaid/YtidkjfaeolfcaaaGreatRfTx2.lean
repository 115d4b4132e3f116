import Derived.Test.YtidkjfaeolfcaaaGreatRfNb
import Derived.Test.YtidkjfaeolfcaaaGreatRfR11
import Derived.Test.YtidkjfaeolfcaaaGreatRfNew
import Derived.Test.YtidkjfaeolfcaaaGreatRfAW
import Derived.Test.YtidkjfaeolfcaaaGreatRfCell
import Derived.Lib.FrozenHead
import Derived.Lib.ItoaNum
/- Own work: nets and automata as values, for the rules. -/
set_option linter.unusedVariables false
set_option linter.unusedSimpArgs false
namespace Go.Rf
open Go.RowKit
theorem Z4k (n : Net) : (encNet n).solid = true := rfl
theorem Z2e (n : Net) : (encNet n).cells = [.v (.int .i64 n.signs), encIss n.by_, encIss n.follow, encIs n.last] := rfl
theorem Z25 (n : Net) : AV.agg [.v (.int .i64 n.signs), encIss n.by_, encIss n.follow, encIs n.last] = encNet n := rfl
theorem Z4h (d : Det) : (encDet d).solid = true := rfl
theorem Z2b (d : Det) : (encDet d).cells = [.v (.int .i64 d.signs), encIss d.next, encBs d.fin] := rfl
theorem Z24 (d : Det) : AV.agg [.v (.int .i64 d.signs), encIss d.next, encBs d.fin] = encDet d := rfl
theorem Z36 (l : List Int) : exLen (encIs l) = some (.v (.int .i64 l.length)) := by simp [encIs, exLen]
theorem Z37 (l : List (List Int)) : exLen (encIss l) = some (.v (.int .i64 l.length)) := by simp [encIss, exLen]
theorem Z35 (l : List Bool) : exLen (encBs l) = some (.v (.int .i64 l.length)) := by simp [encBs, exLen]
theorem Z3s {S : St} {nid : Nat} {l : List Int} {k : IntKind} {n : Int} (hn : 0 ≤ n) (hlt : n < l.length) : (exIdxA 1 (encIs l) (.v (.int k n))).run S nid = some (.eptr (encI (l.getD n.toNat 0)) 0, S) := by
  have hl : n.toNat < l.length := by omega
  simp [encIs, exIdxA, hn, List.getElem?_eq_getElem hl, List.getD_eq_getElem?_getD, AV.cells, encI]
theorem Z3t {S : St} {nid : Nat} {l : List (List Int)} {k : IntKind} {n : Int} (hn : 0 ≤ n) (hlt : n < l.length) : (exIdxA 1 (encIss l) (.v (.int k n))).run S nid = some (.eptr (encIs (l.getD n.toNat [])) 0, S) := by
  have hl : n.toNat < l.length := by omega
  simp [encIss, exIdxA, hn, List.getElem?_eq_getElem hl, List.getD_eq_getElem?_getD, AV.cells, encIs]
theorem Z3r {S : St} {nid : Nat} {l : List Bool} {k : IntKind} {n : Int} (hn : 0 ≤ n) (hlt : n < l.length) : (exIdxA 1 (encBs l) (.v (.int k n))).run S nid = some (.eptr (encB (l.getD n.toNat false)) 0, S) := by
  have hl : n.toNat < l.length := by omega
  simp [encBs, exIdxA, hn, List.getElem?_eq_getElem hl, List.getD_eq_getElem?_getD, AV.cells, encB]
theorem Z3p {S : St} {nid : Nat} {l : List Int} {k : IntKind} {n : Int} (hn : 0 ≤ n) (hlt : n < l.length) : (exIdxA 1 (encIs l) (.v (.int k n))).runT S nid = some (.eptr (encI (l.getD n.toNat 0)) 0, S, [], []) := by
  have hl : n.toNat < l.length := by omega
  simp [encIs, exIdxA, hn, List.getElem?_eq_getElem hl, List.getD_eq_getElem?_getD, AV.cells, encI, Z4c]
theorem Z3q {S : St} {nid : Nat} {l : List (List Int)} {k : IntKind} {n : Int} (hn : 0 ≤ n) (hlt : n < l.length) : (exIdxA 1 (encIss l) (.v (.int k n))).runT S nid = some (.eptr (encIs (l.getD n.toNat [])) 0, S, [], []) := by
  have hl : n.toNat < l.length := by omega
  simp [encIss, exIdxA, hn, List.getElem?_eq_getElem hl, List.getD_eq_getElem?_getD, AV.cells, encIs, Z4c]
theorem idxT_Bs {S : St} {nid : Nat} {l : List Bool} {k : IntKind} {n : Int} (hn : 0 ≤ n) (hlt : n < l.length) : (exIdxA 1 (encBs l) (.v (.int k n))).runT S nid = some (.eptr (encB (l.getD n.toNat false)) 0, S, [], []) := by
  have hl : n.toNat < l.length := by omega
  simp [encBs, exIdxA, hn, List.getElem?_eq_getElem hl, List.getD_eq_getElem?_getD, AV.cells, encB, Z4c]
/-- A list of lists in which only one is another one. -/
theorem getD_I {l : List Int} {i : Nat} (h : i < l.length) : l.getD i 0 = l[i] := by rw [List.getD_eq_getElem?_getD, List.getElem?_eq_getElem h]; rfl
end Go.Rf


/- Own work: codes that change nothing of their own, told of worlds: for calls whose contracts speak of worlds. -/
set_option linter.unusedVariables false
set_option linter.unusedSimpArgs false
namespace Go.Rf
open Go.RowKit

structure EOk (E : Env) (w : World) : Prop where
  hH : HOk E.H w
  fresh : ∀ id, 1 ≤ id → E.ρ id = none
def CallW (P : Program) (E : Env) (f : FuncId) (args : List AV) (w : World) (K : AV → World → Prop) : Prop :=
  Callable P f ∧ ∀ vals, Reps E args vals → Calls P f vals w fun e w' => ∃ v r, e = .returned v ∧ Rep E r v ∧ HOk E.H w' ∧ K r w'
end Go.Rf


/- Own work: a set's text (det.text). -/
set_option linter.unusedVariables false
set_option linter.unusedSimpArgs false
namespace Go.Rf
open Go.RowKit

/-! ### what is asked of the builder and of Itoa -/
structure BldK (P : Program) (fw fb fs : FuncId) (T e : TypeId) : Prop where
  cw : Callable P fw
  cb : Callable P fb
  cs : Callable P fs
  w : ∀ (B b : Nat) (bs : List Value) (s : ByteArray) (w : World), Lib.IsBuilderF T e B b bs w → bs.length + s.size ≤ 140737488355328 → B ≤ w.heap.size →
    Calls P fw #[.pointer (some ⟨b, 0, none⟩), .string s] w fun en w' => en = .returned (.tuple #[.int .i64 s.size, .nilIface]) ∧ Lib.IsBuilderF T e B b (bs ++ Lib.strCells s) w' ∧ Below B w w'
  b : ∀ (B b : Nat) (bs : List Value) (c : Int) (w : World), Lib.IsBuilderF T e B b bs w → bs.length + 1 ≤ 140737488355328 → B ≤ w.heap.size →
    Calls P fb #[.pointer (some ⟨b, 0, none⟩), .int .u8 c] w fun en w' => en = .returned .nilIface ∧ Lib.IsBuilderF T e B b (bs ++ [.int .u8 c]) w' ∧ Below B w w'
  s : ∀ (B b : Nat) (l : List UInt8) (w : World), Lib.IsBuilderF T e B b (Lib.byteCells l) w → B ≤ w.heap.size →
    Calls P fs #[.pointer (some ⟨b, 0, none⟩)] w fun en w' => en = .returned (.string ⟨l.toArray⟩) ∧ Below B w w'
/-- Itoa of what is good. -/
structure ItK (P : Program) (fi : FuncId) (good : Int → Prop) : Prop where
  c : Callable P fi
  h : ∀ (H : Nat → Option (Array Value)) (n : Int) (w : World), Gam P H → HOk H w → good n → Calls P fi #[.int .i64 n] w fun en w' => en = .returned (.string ⟨(Lib.itoa n).toArray⟩) ∧ Below w.heap.size w w'
def strAV (l : List UInt8) : AV := .v (.string ⟨l.toArray⟩)
theorem size_list (l : List UInt8) : (⟨l.toArray⟩ : ByteArray).size = l.length := rfl
theorem byteCells_append (l m : List UInt8) : Lib.byteCells (l ++ m) = Lib.byteCells l ++ Lib.byteCells m := by simp [Lib.byteCells]
theorem byteCells_len (l : List UInt8) : (Lib.byteCells l).length = l.length := by simp [Lib.byteCells]
/-- The builder's number is 0: it lies at b. -/
structure BE (E : Env) (B b : Nat) : Prop where
  ρ : E.ρ 0 = some ⟨b, 0, 2, 1⟩
  H : ∀ c cs, E.H c = some cs → c < B
theorem BE.ptr {E : Env} {B b : Nat} (h : BE E B b) {v : Value} (r : Rep E (.ptr 0 0 0) v) : v = .pointer (some ⟨b, 0, none⟩) := by
  cases r with
  | ptr _ _ _ l hl =>
    rw [h.ρ] at hl
    cases hl
    rfl
theorem BE.keep {E : Env} {B b : Nat} (h : BE E B b) {w w' : World} (hH : HOk E.H w) (hb : Below B w w') : HOk E.H w' := by
  intro c cs e
  obtain ⟨el, fz, hw⟩ := hH c cs e
  exact ⟨el, fz, by rw [hb.block c (h.H c cs e)]; exact hw⟩
theorem of_reps_one {E : Env} {x : AV} {vals : Array Value} (h : Reps E [x] vals) : ∃ v, vals = #[v] ∧ Rep E x v := by
  obtain ⟨h1, h2⟩ := h
  refine ⟨vals.getD 0 undef, ?_, h2 0 (by simp)⟩
  apply Array.ext
  · simpa using h1
  · intro i h3 h4
    have : i = 0 := by simp at h4; omega
    subst this
    simp [Array.getD_eq_getD_getElem?, Array.getElem?_eq_getElem h3]
theorem of_reps_two {E : Env} {x y : AV} {vals : Array Value} (h : Reps E [x, y] vals) : ∃ v u, vals = #[v, u] ∧ Rep E x v ∧ Rep E y u := by
  obtain ⟨h1, h2⟩ := h
  refine ⟨vals.getD 0 undef, vals.getD 1 undef, ?_, h2 0 (by simp), h2 1 (by simp)⟩
  apply Array.ext
  · simpa using h1
  · intro i h3 h4
    have hi : i < 2 := by simpa using h4
    match i, hi with
    | 0, _ => simp [Array.getD_eq_getD_getElem?, Array.getElem?_eq_getElem h3]
    | 1, _ => simp [Array.getD_eq_getD_getElem?, Array.getElem?_eq_getElem h3]
/-- The builder holds these bytes. -/
structure Bld (T e B b : Nat) (w0 : World) (l : List UInt8) (w : World) : Prop where
  is : Lib.IsBuilderF T e B b (Lib.byteCells l) w
  below : Below B w0 w
  room : B ≤ w.heap.size
theorem Bld.kept {T e B b : Nat} {w0 w w' : World} {l : List UInt8} (h : Bld T e B b w0 l w) (hb : Below w.heap.size w w') : Bld T e B b w0 l w' := by
  have hbB : Below B w w' := ⟨hb.os, hb.tape, hb.output, hb.size, fun k hk => hb.block k (Nat.lt_of_lt_of_le hk h.room)⟩
  have hgr : w.grownBy w' none := ⟨hb.os, hb.tape, hb.output, hb.size, fun k hk _ => hb.block k hk⟩
  have key : ∀ p, Lib.BuilderAtF T e B b p (Lib.byteCells l) w → Lib.BuilderAtF T e B b p (Lib.byteCells l) w' := by
    rintro p ⟨h1, v, h2, h3, h4⟩
    refine ⟨h1, v, ?_, h3.kept hgr (by cases hv : v.ownBlock <;> simp), h4⟩
    rw [hb.block b (Array.getElem?_eq_some_iff.mp h2).1]; exact h2
  exact ⟨h.is.elim (fun x => .inl (key _ x)) (fun x => .inr (key _ x)), h.below.trans hbB, Nat.le_trans h.room hb.size⟩
theorem CallW.str {P : Program} {fw fb fs : FuncId} {T e : TypeId} (k : BldK P fw fb fs T e) {E : Env} {B b : Nat} (hE : BE E B b) {w0 w : World} {l m : List UInt8} (h : Bld T e B b w0 l w) (hH : HOk E.H w) (hl : l.length + m.length ≤ 140737488355328)
    {K : AV → World → Prop} (hK : ∀ w', Bld T e B b w0 (l ++ m) w' → HOk E.H w' → K .junk w') : CallW P E fw [.ptr 0 0 0, strAV m] w K := by
  refine ⟨k.cw, fun vals hv => ?_⟩
  obtain ⟨v, u, rfl, r1, r2⟩ := of_reps_two hv
  have e1 := hE.ptr r1
  have e2 := r2.v_inv
  subst e1; subst e2
  refine (k.w B b _ ⟨m.toArray⟩ w h.is (by rw [byteCells_len, size_list]; exact hl) h.room).mono ?_
  rintro en w' ⟨rfl, h1, h2⟩
  exact ⟨_, .junk, rfl, .junk _, hE.keep hH h2, hK w' ⟨by rw [byteCells_append]; exact h1, h.below.trans h2, Nat.le_trans h.room h2.size⟩ (hE.keep hH h2)⟩
theorem CallW.string {P : Program} {fw fb fs : FuncId} {T e : TypeId} (k : BldK P fw fb fs T e) {E : Env} {B b : Nat} (hE : BE E B b) {w0 w : World} {l : List UInt8} (h : Bld T e B b w0 l w) (hH : HOk E.H w)
    {K : AV → World → Prop} (hK : ∀ w', Below B w0 w' → K (strAV l) w') : CallW P E fs [.ptr 0 0 0] w K := by
  refine ⟨k.cs, fun vals hv => ?_⟩
  obtain ⟨v, rfl, r1⟩ := of_reps_one hv
  have e1 := hE.ptr r1
  subst e1
  refine (k.s B b l w h.is h.room).mono ?_
  rintro en w' ⟨rfl, h2⟩
  exact ⟨_, strAV l, rfl, .v _ rfl, hE.keep hH h2, hK w' (h.below.trans h2)⟩
theorem CallW.itoa {P : Program} {fi : FuncId} {good : Int → Prop} (k : ItK P fi good) {E : Env} {T e B b : Nat} (hE : BE E B b) {w0 w : World} {l : List UInt8} (h : Bld T e B b w0 l w) {n : Int} (hn : good n) (hG : Gam P E.H) (hH : HOk E.H w)
    {K : AV → World → Prop} (hK : ∀ w', Bld T e B b w0 l w' → HOk E.H w' → K (strAV (Lib.itoa n)) w') : CallW P E fi [encI n] w K := by
  refine ⟨k.c, fun vals hv => ?_⟩
  obtain ⟨v, rfl, r1⟩ := of_reps_one hv
  have e1 := r1.v_inv
  subst e1
  refine (k.h E.H n w hG hH hn).mono ?_
  rintro en w' ⟨rfl, hb⟩
  have hbB : Below B w w' := ⟨hb.os, hb.tape, hb.output, hb.size, fun k hk => hb.block k (Nat.lt_of_lt_of_le hk h.room)⟩
  exact ⟨_, strAV (Lib.itoa n), rfl, .v _ rfl, hE.keep hH hbB, hK w' (h.kept hb) (hE.keep hH hbB)⟩
end Go.Rf


/- Own work: a set's text (det.text). -/
set_option linter.unusedVariables false
set_option linter.unusedSimpArgs false
namespace Go.Rf
open Go.RowKit
def textL (l : List Int) : List UInt8 := l.flatMap fun n => Lib.itoa n ++ [32]
structure TxI (T e B : Nat) (w0 : World) (l : List Int) (m : Nat) (a : AF) (w : World) (j : Nat) : Prop where
  hj : j ≤ l.length
  hm : m = l.length - j
  e3 : a 3 = .ptr 0 0 0
  e6 : a 6 = encIs l
  e7 : a 7 = encI l.length
  e8 : a 8 = encI j
  bl : Bld T e B B w0 (textL (l.take j)) w
  ok : True
end Go.Rf

