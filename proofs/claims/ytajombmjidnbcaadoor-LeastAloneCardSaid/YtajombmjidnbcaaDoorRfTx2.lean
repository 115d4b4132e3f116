import Derived.Test.YtajombmjidnbcaaDoorRfCell
import Derived.Test.YtajombmjidnbcaaDoorRfWW
import Derived.Lib.FrozenHead
import Derived.Lib.ItoaNum
/- Own work: a set's text (det.text). -/
set_option linter.unusedVariables false
set_option linter.unusedSimpArgs false
namespace Go.Rf
open Go.RowKit

/-! ### what is asked of the builder and of Itoa -/
structure BldK (P : Program) (fw fb fs : FuncId) (T e : TypeId) : Prop where
  cw : Callable P fw
  cb : Callable P fb
  cs : Callable P fs
  w : ∀ (B b : Nat) (bs : List Value) (s : ByteArray) (w : World), Lib.IsBuilderF T e B b bs w → bs.length + s.size ≤ 140737488355328 → B ≤ w.heap.size →
    Calls P fw #[.pointer (some ⟨b, 0, none⟩), .string s] w fun en w' => en = .returned (.tuple #[.int .i64 s.size, .nilIface]) ∧ Lib.IsBuilderF T e B b (bs ++ Lib.strCells s) w' ∧ Below B w w'
  b : ∀ (B b : Nat) (bs : List Value) (c : Int) (w : World), Lib.IsBuilderF T e B b bs w → bs.length + 1 ≤ 140737488355328 → B ≤ w.heap.size →
    Calls P fb #[.pointer (some ⟨b, 0, none⟩), .int .u8 c] w fun en w' => en = .returned .nilIface ∧ Lib.IsBuilderF T e B b (bs ++ [.int .u8 c]) w' ∧ Below B w w'
  s : ∀ (B b : Nat) (l : List UInt8) (w : World), Lib.IsBuilderF T e B b (Lib.byteCells l) w → B ≤ w.heap.size →
    Calls P fs #[.pointer (some ⟨b, 0, none⟩)] w fun en w' => en = .returned (.string ⟨l.toArray⟩) ∧ Below B w w'
/-- Itoa of what is good. -/
structure ItK (P : Program) (fi : FuncId) (good : Int → Prop) : Prop where
  c : Callable P fi
  h : ∀ (H : Nat → Option (Array Value)) (n : Int) (w : World), Gam P H → HOk H w → good n → Calls P fi #[.int .i64 n] w fun en w' => en = .returned (.string ⟨(Lib.itoa n).toArray⟩) ∧ Below w.heap.size w w'
def strAV (l : List UInt8) : AV := .v (.string ⟨l.toArray⟩)
theorem size_list (l : List UInt8) : (⟨l.toArray⟩ : ByteArray).size = l.length := rfl
theorem byteCells_append (l m : List UInt8) : Lib.byteCells (l ++ m) = Lib.byteCells l ++ Lib.byteCells m := by simp [Lib.byteCells]
theorem byteCells_len (l : List UInt8) : (Lib.byteCells l).length = l.length := by simp [Lib.byteCells]
/-- The builder's number is 0: it lies at b. -/
structure BE (E : Env) (B b : Nat) : Prop where
  ρ : E.ρ 0 = some ⟨b, 0, 2, 1⟩
  H : ∀ c cs, E.H c = some cs → c < B
theorem BE.ptr {E : Env} {B b : Nat} (h : BE E B b) {v : Value} (r : Rep E (.ptr 0 0 0) v) : v = .pointer (some ⟨b, 0, none⟩) := by
  cases r with
  | ptr _ _ _ l hl =>
    rw [h.ρ] at hl
    cases hl
    rfl
theorem BE.keep {E : Env} {B b : Nat} (h : BE E B b) {w w' : World} (hH : HOk E.H w) (hb : Below B w w') : HOk E.H w' := by
  intro c cs e
  obtain ⟨el, fz, hw⟩ := hH c cs e
  exact ⟨el, fz, by rw [hb.block c (h.H c cs e)]; exact hw⟩
theorem of_reps_one {E : Env} {x : AV} {vals : Array Value} (h : Reps E [x] vals) : ∃ v, vals = #[v] ∧ Rep E x v := by
  obtain ⟨h1, h2⟩ := h
  refine ⟨vals.getD 0 undef, ?_, h2 0 (by simp)⟩
  apply Array.ext
  · simpa using h1
  · intro i h3 h4
    have : i = 0 := by simp at h4; omega
    subst this
    simp [Array.getD_eq_getD_getElem?, Array.getElem?_eq_getElem h3]
theorem of_reps_two {E : Env} {x y : AV} {vals : Array Value} (h : Reps E [x, y] vals) : ∃ v u, vals = #[v, u] ∧ Rep E x v ∧ Rep E y u := by
  obtain ⟨h1, h2⟩ := h
  refine ⟨vals.getD 0 undef, vals.getD 1 undef, ?_, h2 0 (by simp), h2 1 (by simp)⟩
  apply Array.ext
  · simpa using h1
  · intro i h3 h4
    have hi : i < 2 := by simpa using h4
    match i, hi with
    | 0, _ => simp [Array.getD_eq_getD_getElem?, Array.getElem?_eq_getElem h3]
    | 1, _ => simp [Array.getD_eq_getD_getElem?, Array.getElem?_eq_getElem h3]
/-- The builder holds these bytes. -/
structure Bld (T e B b : Nat) (w0 : World) (l : List UInt8) (w : World) : Prop where
  is : Lib.IsBuilderF T e B b (Lib.byteCells l) w
  below : Below B w0 w
  room : B ≤ w.heap.size
theorem Bld.kept {T e B b : Nat} {w0 w w' : World} {l : List UInt8} (h : Bld T e B b w0 l w) (hb : Below w.heap.size w w') : Bld T e B b w0 l w' := by
  have hbB : Below B w w' := ⟨hb.os, hb.tape, hb.output, hb.size, fun k hk => hb.block k (Nat.lt_of_lt_of_le hk h.room)⟩
  have hgr : w.grownBy w' none := ⟨hb.os, hb.tape, hb.output, hb.size, fun k hk _ => hb.block k hk⟩
  have key : ∀ p, Lib.BuilderAtF T e B b p (Lib.byteCells l) w → Lib.BuilderAtF T e B b p (Lib.byteCells l) w' := by
    rintro p ⟨h1, v, h2, h3, h4⟩
    refine ⟨h1, v, ?_, h3.kept hgr (by cases hv : v.ownBlock <;> simp), h4⟩
    rw [hb.block b (Array.getElem?_eq_some_iff.mp h2).1]; exact h2
  exact ⟨h.is.elim (fun x => .inl (key _ x)) (fun x => .inr (key _ x)), h.below.trans hbB, Nat.le_trans h.room hb.size⟩
theorem CallW.str {P : Program} {fw fb fs : FuncId} {T e : TypeId} (k : BldK P fw fb fs T e) {E : Env} {B b : Nat} (hE : BE E B b) {w0 w : World} {l m : List UInt8} (h : Bld T e B b w0 l w) (hH : HOk E.H w) (hl : l.length + m.length ≤ 140737488355328)
    {K : AV → World → Prop} (hK : ∀ w', Bld T e B b w0 (l ++ m) w' → HOk E.H w' → K .junk w') : CallW P E fw [.ptr 0 0 0, strAV m] w K := by
  refine ⟨k.cw, fun vals hv => ?_⟩
  obtain ⟨v, u, rfl, r1, r2⟩ := of_reps_two hv
  have e1 := hE.ptr r1
  have e2 := r2.v_inv
  subst e1; subst e2
  refine (k.w B b _ ⟨m.toArray⟩ w h.is (by rw [byteCells_len, size_list]; exact hl) h.room).mono ?_
  rintro en w' ⟨rfl, h1, h2⟩
  exact ⟨_, .junk, rfl, .junk _, hE.keep hH h2, hK w' ⟨by rw [byteCells_append]; exact h1, h.below.trans h2, Nat.le_trans h.room h2.size⟩ (hE.keep hH h2)⟩
theorem CallW.byte {P : Program} {fw fb fs : FuncId} {T e : TypeId} (k : BldK P fw fb fs T e) {E : Env} {B b : Nat} (hE : BE E B b) {w0 w : World} {l : List UInt8} {c : UInt8} (h : Bld T e B b w0 l w) (hH : HOk E.H w) (hl : l.length + 1 ≤ 140737488355328)
    {K : AV → World → Prop} (hK : ∀ w', Bld T e B b w0 (l ++ [c]) w' → HOk E.H w' → K .junk w') {n : Int} (hc : n = (c.toNat : Int)) : CallW P E fb [.ptr 0 0 0, .v (.int .u8 n)] w K := by
  refine ⟨k.cb, fun vals hv => ?_⟩
  obtain ⟨v, u, rfl, r1, r2⟩ := of_reps_two hv
  have e1 := hE.ptr r1
  have e2 := r2.v_inv
  subst e1; subst e2
  refine (k.b B b _ n w h.is (by rw [byteCells_len]; exact hl) h.room).mono ?_
  rintro en w' ⟨rfl, h1, h2⟩
  exact ⟨_, .junk, rfl, .junk _, hE.keep hH h2, hK w' ⟨by rw [byteCells_append]; subst hc; exact h1, h.below.trans h2, Nat.le_trans h.room h2.size⟩ (hE.keep hH h2)⟩
theorem CallW.string {P : Program} {fw fb fs : FuncId} {T e : TypeId} (k : BldK P fw fb fs T e) {E : Env} {B b : Nat} (hE : BE E B b) {w0 w : World} {l : List UInt8} (h : Bld T e B b w0 l w) (hH : HOk E.H w)
    {K : AV → World → Prop} (hK : ∀ w', Below B w0 w' → K (strAV l) w') : CallW P E fs [.ptr 0 0 0] w K := by
  refine ⟨k.cs, fun vals hv => ?_⟩
  obtain ⟨v, rfl, r1⟩ := of_reps_one hv
  have e1 := hE.ptr r1
  subst e1
  refine (k.s B b l w h.is h.room).mono ?_
  rintro en w' ⟨rfl, h2⟩
  exact ⟨_, strAV l, rfl, .v _ rfl, hE.keep hH h2, hK w' (h.below.trans h2)⟩
theorem CallW.itoa {P : Program} {fi : FuncId} {good : Int → Prop} (k : ItK P fi good) {E : Env} {T e B b : Nat} (hE : BE E B b) {w0 w : World} {l : List UInt8} (h : Bld T e B b w0 l w) {n : Int} (hn : good n) (hG : Gam P E.H) (hH : HOk E.H w)
    {K : AV → World → Prop} (hK : ∀ w', Bld T e B b w0 l w' → HOk E.H w' → K (strAV (Lib.itoa n)) w') : CallW P E fi [encI n] w K := by
  refine ⟨k.c, fun vals hv => ?_⟩
  obtain ⟨v, rfl, r1⟩ := of_reps_one hv
  have e1 := r1.v_inv
  subst e1
  refine (k.h E.H n w hG hH hn).mono ?_
  rintro en w' ⟨rfl, hb⟩
  have hbB : Below B w w' := ⟨hb.os, hb.tape, hb.output, hb.size, fun k hk => hb.block k (Nat.lt_of_lt_of_le hk h.room)⟩
  exact ⟨_, strAV (Lib.itoa n), rfl, .v _ rfl, hE.keep hH hbB, hK w' (h.kept hb) (hE.keep hH hbB)⟩
/-! ### the builder is laid -/
theorem comp_seq_inv {P : Program} {n : Nat} {c : Code} {X Y : AC} (h : comp P n c = some (.seq X Y)) : ∃ x y, c = .seq x y ∧ comp P n x = some X ∧ comp P n y = some Y := by
  cases c with
  | seq x y =>
    simp only [comp, compG, Option.map_eq_some_iff, Option.bind_eq_some_iff] at h
    obtain ⟨X', hX, Y', hY, e⟩ := h
    simp only [AC.seq.injEq] at e
    obtain ⟨rfl, rfl⟩ := e
    exact ⟨x, y, rfl, hX, hY⟩
  | region id ops dr =>
    have e := compG_region (R := regC) h
    unfold regC regOr at e
    split at e <;> cases e
  | cond a x y =>
    simp only [comp, compG, Option.map_eq_some_iff, Option.bind_eq_some_iff] at h
    obtain ⟨_, _, _, _, _, _, e⟩ := h
    cases e
  | block a x =>
    simp only [comp, compG, Option.map_eq_some_iff] at h
    obtain ⟨_, _, e⟩ := h
    cases e
  | loop x =>
    simp only [comp, compG, Option.map_eq_some_iff] at h
    obtain ⟨_, _, e⟩ := h
    cases e
  | scope x =>
    simp only [comp, compG, Option.map_eq_some_iff] at h
    obtain ⟨_, _, e⟩ := h
    cases e
  | _ => simp only [comp, compG, Option.some.injEq, reduceCtorEq] at h
theorem comp_reg_inv {P : Program} {n : Nat} {c : Code} {os : List AOper} (h : comp P n c = some (.reg none os)) : ∃ id ops, c = .region id ops false ∧ ops.size = os.length ∧ ∀ k (hk : k < os.length), ∃ o, ops[k]? = some o ∧ cOper P n ops o = some (os[k]) := by
  cases c with
  | region id ops dr =>
    have e := compG_region (R := regC) h
    unfold regC at e
    cases hq : (ops.toList.mapM (cOper P n ops)).bind (cReg dr ops) with
    | none => rw [hq] at e; cases e
    | some p =>
      rw [hq] at e
      simp only [regOr, AC.reg.injEq] at e
      obtain ⟨e1, rfl⟩ := e
      simp only [Option.bind_eq_some_iff] at hq
      obtain ⟨ys, hy, hcr⟩ := hq
      obtain ⟨h1, h2⟩ := mapM_get hy
      unfold cReg at hcr
      split at hcr
      · split at hcr
        · cases hcr; cases e1
        · cases hcr
      · rename_i hdr
        simp only [Bool.not_eq_true] at hdr
        subst hdr
        cases hcr
        exact ⟨id, ops, rfl, by rw [h1]; simp, fun k hk => by obtain ⟨o, a1, a2⟩ := h2 k hk; exact ⟨o, by simpa using a1, a2⟩⟩
  | seq x y =>
    simp only [comp, compG, Option.map_eq_some_iff, Option.bind_eq_some_iff] at h
    obtain ⟨_, _, _, _, e⟩ := h
    cases e
  | cond a x y =>
    simp only [comp, compG, Option.map_eq_some_iff, Option.bind_eq_some_iff] at h
    obtain ⟨_, _, _, _, _, _, e⟩ := h
    cases e
  | block a x =>
    simp only [comp, compG, Option.map_eq_some_iff] at h
    obtain ⟨_, _, e⟩ := h
    cases e
  | loop x =>
    simp only [comp, compG, Option.map_eq_some_iff] at h
    obtain ⟨_, _, e⟩ := h
    cases e
  | scope x =>
    simp only [comp, compG, Option.map_eq_some_iff] at h
    obtain ⟨_, _, e⟩ := h
    cases e
  | _ => simp only [comp, compG, Option.some.injEq, reduceCtorEq] at h
/-- The type of the second region's variable. -/
def allocT : Code → Option TypeId
  | .seq _ (.seq (.region _ ops _) _) => match ops[0]? with
    | some o => match o.op with
      | .alloc t => some t
      | _ => none
    | none => none
  | _ => none
def bld0 : AV := .agg [.v (.pointer none), .sl true []]
theorem ofVal_bld {z : Value} (h : ofVal z = some bld0) : z.cells = #[.pointer none, .slice none 0 0] := by
  unfold ofVal at h
  split at h
  · rename_i cs
    simp only [Option.map_eq_some_iff, bld0, AV.agg.injEq] at h
    obtain ⟨l, h1, rfl⟩ := h
    obtain ⟨k1, _, k3⟩ := mapM_atomOf (E := ⟨fun _ => none, fun _ => none⟩) h1
    have hs : cs.size = 2 := by simpa using k1.symm
    have r0 := (k3 0 (by simp)).v_inv
    have hm : ∃ x y, cs.toList = [x, y] := by
      have : cs.toList.length = 2 := by simpa using hs
      match hcl : cs.toList, this with
      | [x, y], _ => exact ⟨x, y, rfl⟩
    obtain ⟨x, y, hxy⟩ := hm
    have hcs : cs = #[x, y] := by
      apply Array.ext'
      simpa using hxy
    subst hcs
    simp only [List.mapM_cons, List.mapM_nil, Option.bind_eq_bind, Option.bind_eq_some_iff, Option.pure_def, Option.some.injEq, List.cons.injEq, and_true] at h1
    obtain ⟨p, hp, q, ⟨q2, hq, q3, ⟨rfl⟩, rfl⟩, rfl, rfl, _⟩ := h1
    have hx : x = .pointer none := (atomOf_ok (E := ⟨fun _ => none, fun _ => none⟩) hp).1.v_inv
    have hy : y = .slice none 0 0 := by
      unfold atomOf at hq
      split at hq
      · rfl
      · cases hq
      · split at hq <;> cases hq
    rw [hx, hy]; rfl
  · unfold atomOf at h
    split at h <;> simp [bld0] at h
theorem alloc_bld {P : Program} {n d : Nat} {c : Code} (h : comp P n c = some (.reg none [⟨some d, .alloc bld0 2, none, none⟩])) {a : AF} {act : Act} {w : World} {E : Env} (hF : RepF E n a act) (hρ : ∀ i, E.ρ i = none) (hH : HOk E.H w) {T : TypeId}
    (hT : ∀ id ops, c = .region id ops false → ∃ o, ops[0]? = some o ∧ o.op = .alloc T) (e : TypeId) :
    c.wp P (fun ex act' w' => ex = .normal ∧ w' = w.alloc (.cells #[.pointer none, .slice none 0 0] T) ∧ EOk ⟨fun i => if i = 0 then some ⟨w.heap.size, 0, 2, 1⟩ else none, E.H⟩ w' ∧
      RepF ⟨fun i => if i = 0 then some ⟨w.heap.size, 0, 2, 1⟩ else none, E.H⟩ n (a.put (some d) (.ptr 0 0 0)) act' ∧ Bld T e w.heap.size w.heap.size w [] w') act w := by
  obtain ⟨id, ops, rfl, hs, hc⟩ := comp_reg_inv h
  obtain ⟨o, ho, hco⟩ := hc 0 (by simp)
  simp only [List.getElem_cons_zero] at hco
  obtain ⟨hd, hdst, hgd, hor⟩ := cOper_inv hco
  obtain ⟨o', ho', hop'⟩ := hT _ _ rfl
  rw [ho] at ho'; cases ho'
  have hgo : o.guard = none := by
    unfold cguard at hgd
    split at hgd
    · assumption
    · simp only [Option.map_eq_some_iff] at hgd
      obtain ⟨_, _, e⟩ := hgd
      cases e
  simp only at hdst hgd hor
  rcases hor with ⟨p, hp, _⟩ | ⟨_, hop⟩
  · cases hp
  rw [hop'] at hop
  simp only [cop, Option.map_eq_some_iff, AOp.alloc.injEq] at hop
  obtain ⟨p, hz, hp1, hp2⟩ := hop
  obtain ⟨i, zv, g1, g2, g3, g4, g5, g6, g7⟩ := zeroOf_inv (x := p.1) (m := p.2) hz
  rw [hp1] at g3
  have hzc := ofVal_bld g3
  have hsz : ops.size = 1 := by simpa using hs
  refine wp_region ?_
  rw [hsz]
  have hl : List.range 1 = [0] := rfl
  rw [hl]
  simp only [wpOps, ho, Region.wanted, hgo, if_true]
  left
  unfold Oper.wp
  have hrun : (execOp act.eval o).run P w = .ok (.value (.pointer (some ⟨w.heap.size, 0, none⟩))) (w.alloc (.cells #[.pointer none, .slice none 0 0] T)) := by
    rw [← hzc]
    simp [execOp, hop', Instr.alloc, zeroValue, typeInfo, g1, g2, newVar, newRow]
  rw [hrun, Oper.upon_value]
  have hle : E.le ⟨fun i => if i = 0 then some ⟨w.heap.size, 0, 2, 1⟩ else none, E.H⟩ := ⟨fun i l e => absurd e (by rw [hρ i]; simp), fun _ _ e => e⟩
  have hbel : Below w.heap.size w (w.alloc (.cells #[.pointer none, .slice none 0 0] T)) := (Below.refl w.heap.size w).alloc (Nat.le_refl _) _
  refine ⟨trivial, rfl, ⟨fun b cs e => ?_, fun id h1 => by simp only; rw [if_neg (by omega)]⟩, ?_, ⟨.inl ⟨Nat.le_refl _, .slice none 0 0, heap_alloc_new w _, World.ownsRowF_nil _ _ _ _, by simp [Value.ownBlock]⟩, hbel, hbel.size⟩⟩
  · obtain ⟨el, fz, hw⟩ := hH b cs e
    exact ⟨el, fz, by rw [hbel.block b (Array.getElem?_eq_some_iff.mp hw).1]; exact hw⟩
  · rw [hdst]
    have hr : Rep ⟨fun i => if i = 0 then some ⟨w.heap.size, 0, 2, 1⟩ else none, E.H⟩ (.ptr 0 0 0) (.pointer (some ⟨w.heap.size, 0, none⟩)) := by
      have := Rep.ptr (E := ⟨fun i => if i = 0 then some ⟨w.heap.size, 0, 2, 1⟩ else none, E.H⟩) 0 0 0 ⟨w.heap.size, 0, 2, 1⟩ rfl
      simpa using this
    exact (hF.mono hle).put hd hr
/-- A function that writes into a builder of its own. -/
theorem PureC.of_bld {P : Program} {f : FuncId} {fn : Func} {c : Code} {x0 : List AOper} {d : Nat} {Y : AC} {t : Nat} {T e : TypeId} (hf : P.funcs[f]? = some fn) (hnm : (fn.name == "runtime.NumGoroutine") = false) (hb : fn.body = some c)
    (hc : comp P fn.ntmps c = some (.seq (.reg none x0) (.seq (.reg none [⟨some d, .alloc bld0 2, none, none⟩]) Y))) (hT : allocT c = some T) (hr : fn.results = ([t].map ResultVar.tmp).toArray) {args : List AV} (hn : args.length ≤ fn.ntmps) {r : Value} (hrs : scalar r = true)
    (h0 : ∀ (Q : Exit → AF → World → Prop) E w, AWW P E (.reg none x0) Q (argF args) w = Q .normal (x0.foldl (fun a o => a.put o.dst (match o.op with | .mv x => x.ev a | _ => .junk)) (argF args)) w)
    (h1 : ∀ E B w w0, BE E B B → Gam P E.H → HOk E.H w → Bld T e B B w0 [] w → AWW P E Y (fun ex a w' => (ex = .ret ∨ ex = .normal) ∧ a t = .v r ∧ Below B w0 w') ((x0.foldl (fun a o => a.put o.dst (match o.op with | .mv x => x.ev a | _ => .junk)) (argF args)).put (some d) (.ptr 0 0 0)) w) : PureC P f args (.v r) := by
  refine ⟨callable_of hf hnm hb, fun H w vals hG hH hv => ?_⟩
  obtain ⟨c0, c1, rfl, hc0, hc1⟩ := comp_seq_inv hc
  obtain ⟨c2, c3, rfl, hc2, hc3⟩ := comp_seq_inv hc1
  have hF := repF_args hv hn
  have hE0 : EOk ⟨noρ, H⟩ w := ⟨hH, fun _ _ => rfl⟩
  refine calls_of_wp hf hb (wp_seq (wp_mono (aww_sound c0 _ hc0 (fun ex a w' => ex = .normal ∧ a = x0.foldl (fun a o => a.put o.dst (match o.op with | .mv x => x.ev a | _ => .junk)) (argF args) ∧ w' = w) _ w (by rw [h0]; exact ⟨rfl, rfl, rfl⟩) _ hE0 hF) fun ex act1 w1 hp => ?_))
  obtain ⟨a1, ⟨rfl, rfl, rfl⟩, hF1, hE1⟩ := hp
  refine wp_seq (wp_mono (alloc_bld (e := e) hc2 hF1 (fun _ => rfl) hE1.hH (T := T) (fun id ops e => ?_)) fun ex act2 w2 hp => ?_)
  · subst e
    simp only [allocT] at hT
    split at hT
    · rename_i o ho
      refine ⟨o, ho, ?_⟩
      split at hT
      · rename_i t' ht
        cases hT; exact ht
      · cases hT
    · cases hT
  obtain ⟨rfl, rfl, hE2, hF2, hB⟩ := hp
  have hbe : BE ⟨fun i => if i = 0 then some ⟨w1.heap.size, 0, 2, 1⟩ else none, H⟩ w1.heap.size w1.heap.size := ⟨rfl, fun c cs e => by obtain ⟨el, fz, hw⟩ := hH c cs e; exact (Array.getElem?_eq_some_iff.mp hw).1⟩
  refine wp_mono (aww_sound c3 _ hc3 _ _ _ (h1 _ _ _ w1 hbe hG hE2.hH hB) _ hE2 hF2) fun ex act3 w3 hp => ?_
  obtain ⟨a3, ⟨hex, hat, hbel⟩, hF3, hE3⟩ := hp
  have hres := run_results (P := P) hr act3.tmps w3
  have hrep := retAV_rep hF3 [t]
  simp only [retAV, hat] at hrep
  have hval := hrep.v_inv
  have fin : bodyPost P fn (fun e w' => ∃ v H', e = .returned v ∧ (∀ b cs, H b = some cs → H' b = some cs) ∧ (∀ b cs, H' b = some cs → H b = some cs ∨ w1.heap.size ≤ b) ∧ HOk H' w' ∧ Rep ⟨noρ, H'⟩ (.v r) v ∧ Below w1.heap.size w1 w') .ret act3 w3 :=
    ⟨hF3.defers, _, hres, _, H, rfl, fun _ _ e => e, fun _ _ e => .inl e, hE3.hH, by rw [hval]; exact .v _ hrs, hbel⟩
  rcases hex with rfl | rfl
  · exact fin
  · exact fin
end Go.Rf


/- Own work: a set's text (det.text). -/
set_option linter.unusedVariables false
set_option linter.unusedSimpArgs false
namespace Go.Rf
open Go.RowKit
def textL (l : List Int) : List UInt8 := l.flatMap fun n => Lib.itoa n ++ [32]
def AllocIs (P : Program) (f : FuncId) (T : TypeId) : Prop := ((P.funcs[f]?).bind (·.body)).bind allocT = some T
structure TxI (T e B : Nat) (w0 : World) (l : List Int) (m : Nat) (a : AF) (w : World) (j : Nat) : Prop where
  hj : j ≤ l.length
  hm : m = l.length - j
  e3 : a 3 = .ptr 0 0 0
  e6 : a 6 = encIs l
  e7 : a 7 = encI l.length
  e8 : a 8 = encI j
  bl : Bld T e B B w0 (textL (l.take j)) w
  ok : True
end Go.Rf

