import Derived.Test.YtidkjfaeolfcaaaGreatRfOp
set_option linter.unusedVariables false
set_option linter.unusedSimpArgs false
namespace Go.Rf
open Go.RowKit

def intOp (op : BinOp) (k : IntKind) (a b : Int) : Option AV :=
  match op with
  | .add => some (.v (.int k (k.wrap (a + b))))
  | .sub => some (.v (.int k (k.wrap (a - b))))
  | .mul => some (.v (.int k (k.wrap (a * b))))
  | .quo => if b = 0 then none else some (.v (.int k (k.wrap (a.tdiv b))))
  | .rem => if b = 0 then none else some (.v (.int k (a.tmod b)))
  | .eql => some (.v (.bool (a == b)))
  | .neq => some (.v (.bool (a != b)))
  | .lss => some (.v (.bool (decide (a < b))))
  | .leq => some (.v (.bool (decide (a ≤ b))))
  | .gtr => some (.v (.bool (decide (a > b))))
  | .geq => some (.v (.bool (decide (a ≥ b))))
  | .and => some (.v (.int k (k.wrap ((BitVec.ofInt k.bits a &&& BitVec.ofInt k.bits b).toNat))))
  | _ => none
def strOp (op : BinOp) (x y : ByteArray) : Option AV :=
  match op with
  | .add => if ((x.size + y.size : Nat) : Int) > 9223372036854775807 then none else some (.v (.string (x ++ y)))
  | .eql => some (.v (.bool (x.toList == y.toList)))
  | .neq => some (.v (.bool (!(x.toList == y.toList))))
  | .lss => some (.v (.bool (Op.bytesLess x.toList y.toList)))
  | _ => none
def binV (op : BinOp) (x y : AV) : Option AV :=
  match x, y with
  | .v (.int k a), .v (.int k' b) => if k = k' then intOp op k a b else none
  | .v (.string a), .v (.string b) => strOp op a b
  | _, _ => none
theorem Rep.v_inv {E : Env} {x y : Value} (r : Rep E (.v x) y) : y = x := by cases r; rfl
section
variable {P : Program} {n : Nat} {o : Oper} {a : AF} {S : St} {nid : Nat} {v : AV}

theorem ok_move {x : Operand} {X : Opd} (hd : ∀ d, o.dst = some d → d < n) (hop : o.op = .move x ∨ o.op = .assign x) (hx : ofOperand x = some X) : OpOk P n o a S nid (X.ev a) S :=
  .pure hd fun E w act hS hF => ⟨act.eval x, by rcases hop with h | h <;> simp [execOp, h], ofOperand_ok hF hx⟩
theorem run_intOp {op : BinOp} {k : IntKind} {x y : Int} (t : TypeId) (h : intOp op k x y = some v) :
    ∃ val, v = .v val ∧ scalar val = true ∧ ∀ w, (binOp op t (.int k x) (.int k y)).run P w = .ok val w := by
  cases op <;> simp only [intOp] at h <;> (try split at h) <;> simp only [Option.some.injEq, reduceCtorEq] at h <;> subst h <;>
    refine ⟨_, rfl, rfl, fun w => ?_⟩ <;> simp [binOp, Op.intArith, Op.intDiv, Op.intCmp, Op.intBits, *]
theorem run_strOp {op : BinOp} {x y : ByteArray} (t : TypeId) (h : strOp op x y = some v) :
    ∃ val, v = .v val ∧ scalar val = true ∧ ∀ w, (binOp op t (.string x) (.string y)).run P w = .ok val w := by
  cases op <;> simp only [strOp] at h <;> (try split at h) <;> simp only [Option.some.injEq, reduceCtorEq] at h <;> subst h <;>
    refine ⟨_, rfl, rfl, fun w => ?_⟩ <;> simp [binOp, Op.stringOp] <;> omega
theorem ok_bin {op : BinOp} {t t2 : TypeId} {x y : Operand} {X Y : Opd} (hd : ∀ d, o.dst = some d → d < n) (hop : o.op = .binOp op t x y t2) (hx : ofOperand x = some X) (hy : ofOperand y = some Y)
    (h : binV op (X.ev a) (Y.ev a) = some v) : OpOk P n o a S nid v S := by
  refine .pure hd fun E w act hS hF => ?_
  have rx := ofOperand_ok hF hx
  have ry := ofOperand_ok hF hy
  generalize X.ev a = ax at *
  generalize Y.ev a = ay at *
  unfold binV at h
  split at h
  · have ex := rx.v_inv
    have ey := ry.v_inv
    split at h
    · rename_i hk
      subst hk
      obtain ⟨val, rfl, hs, hr⟩ := run_intOp (P := P) t h
      refine ⟨val, ?_, .v _ hs⟩
      simp [execOp, hop, ex, ey, eqGuard_at_int, hr]
    · cases h
  · have ex := rx.v_inv
    have ey := ry.v_inv
    obtain ⟨val, rfl, hs, hr⟩ := run_strOp (P := P) t h
    refine ⟨val, ?_, .v _ hs⟩
    simp [execOp, hop, ex, ey, eqGuard_at_string, hr]
  · cases h
end
end Go.Rf


set_option linter.unusedVariables false
set_option linter.unusedSimpArgs false
namespace Go.Rf
open Go.RowKit

def isAggD : TypeDesc → Bool
  | .struct _ | .array _ _ => true
  | _ => false
/-- none: one cell; some m: a struct or an array of m cells. -/
def kindOf (P : Program) (t : TypeId) : Option (Option Nat) :=
  match P.underlying t with
  | none => none
  | some d => match P.info? t with
    | none => none
    | some i => if isAggD d then some (some i.size) else if i.size = 1 then some none else none
theorem kindOf_inv {P : Program} {t : TypeId} {k : Option Nat} (h : kindOf P t = some k) : ∃ d i, P.underlying t = some d ∧ P.info? t = some i ∧
    ((isAggD d = true ∧ k = some i.size) ∨ (isAggD d = false ∧ k = none ∧ i.size = 1)) := by
  unfold kindOf at h
  split at h
  · cases h
  · rename_i d hd
    split at h
    · cases h
    · rename_i i hi
      split at h
      · rename_i hag; cases h; exact ⟨d, i, hd, hi, .inl ⟨hag, rfl⟩⟩
      · split at h
        · rename_i hag hs; cases h; exact ⟨d, i, hd, hi, .inr ⟨by simpa using hag, rfl, hs⟩⟩
        · cases h
theorem run_isAgg {P : Program} {t : TypeId} {d : TypeDesc} (h : P.underlying t = some d) (w : World) : (isAgg t).run P w = .ok (isAggD d) w := by
  simp only [isAgg, Sem.run_bind, run_underlying h, Result.andThen_ok]
  cases d <;> rfl
theorem run_sizeOf {P : Program} {t : TypeId} {i : TypeInfo} (h : P.info? t = some i) (w : World) : (sizeOf t).run P w = .ok i.size w := by
  simp [sizeOf, typeInfo, h]
/-- Part of a value's cells. -/
def subc (k : Option Nat) (x : AV) (c : Nat) : Option AV :=
  match k with
  | none => x.cells[c]?
  | some m => if c + m ≤ x.cells.length then some (.agg ((x.cells.drop c).take m)) else none
section
variable {P : Program} {n : Nat} {o : Oper} {a : AF} {S : St} {nid : Nat} {v : AV}

/-- A load at an address whose cells stand for x's. -/
theorem run_loadVar {E : Env} {w : World} {t : TypeId} {k : Option Nat} (hk : kindOf P t = some k) {x : AV} {c : Nat} (h : subc k x c = some v) {b p : Nat} {cs : Array Value} {el : TypeId} {fz : Nat × Nat}
    (hw : w.heap[b]? = some (.cells cs el fz)) (hat : ∀ y ∈ x.cells, y.atom = true) (hc : ∀ j (hj : j < x.cells.length), ∃ u, cs[p + j]? = some u ∧ Rep E (x.cells[j]) u) :
    ∃ val, (loadVar t ⟨b, p + c, none⟩).run P w = .ok val w ∧ Rep E v val := by
  obtain ⟨d, i, hu, hi, hor⟩ := kindOf_inv hk
  rcases hor with ⟨hag, rfl⟩ | ⟨hag, rfl, hs⟩
  · unfold subc at h
    simp only at h
    split at h
    · rename_i hle
      cases h
      have hl : ((x.cells.drop c).take i.size).length = i.size := by simp; omega
      let us := (List.range i.size).map fun j => cs.getD (p + c + j) undef
      have hus : us.length = i.size := by simp [us]
      have hrd : ∀ j v, us[j]? = some v → w.cell? ((⟨b, p + c, none⟩ : Addr).add j) = some v := by
        intro j v hv
        have hj : j < i.size := by have := (List.getElem?_eq_some_iff.mp hv).1; omega
        obtain ⟨u, h1, _⟩ := hc (c + j) (by omega)
        rw [addr_add, cell_of_heap hw, show p + c + j = p + (c + j) by omega, h1]
        simp [us, hj, Array.getD_eq_getD_getElem?, show p + c + j = p + (c + j) by omega, h1] at hv
        rw [hv]
      have hr := run_loadCells_list (P := P) w ⟨b, p + c, none⟩ us hrd
      rw [hus] at hr
      refine ⟨.agg us.toArray, ?_, .agg _ _ (by simp [hus, hl]) (fun y hy => hat y (List.mem_of_mem_drop (List.mem_of_mem_take hy))) (fun j hj => ?_)⟩
      · simp only [loadVar, Sem.run_bind, run_isAgg hu, Result.andThen_ok, hag, if_true, run_sizeOf hi, hr]
        rfl
      · rw [hl] at hj
        obtain ⟨u, h1, h2⟩ := hc (c + j) (by omega)
        have e1 : us.toArray.getD j undef = u := by
          simp [us, hj, Array.getD_eq_getD_getElem?, show p + c + j = p + (c + j) by omega, h1]
        rw [e1]
        simpa [List.getElem_take, List.getElem_drop] using h2
    · cases h
  · unfold subc at h
    simp only at h
    obtain ⟨hlt, e⟩ := List.getElem?_eq_some_iff.mp h
    obtain ⟨u, h1, h2⟩ := hc c hlt
    refine ⟨u, ?_, by rw [← e]; exact h2⟩
    simp only [loadVar, Sem.run_bind, run_isAgg hu, Result.andThen_ok, hag]
    simp [run_load, cell_of_heap hw, h1]
def exLoad (k : Option Nat) (p : AV) : Eff :=
  match p with
  | .eptr x c => .val (subc k x c)
  | .ptr id ix c => .rd id fun | .arr _ xs => (xs[ix]?).bind fun x => subc k x c | _ => none
  | _ => .val none
theorem ok_load {t : TypeId} {x : Operand} {X : Opd} {k : Option Nat} {S' : St} (hd : ∀ d, o.dst = some d → d < n) (hop : o.op = .load t x) (hx : ofOperand x = some X) (hk : kindOf P t = some k)
    (h : (exLoad k (X.ev a)).run S nid = some (v, S')) : S' = S ∧ OpOk P n o a S nid v S := by
  generalize hp : X.ev a = p at h
  cases p with
  | eptr y c =>
    simp only [exLoad, Eff.run_val, Option.map_eq_some_iff, Prod.mk.injEq] at h
    obtain ⟨v', h1, rfl, rfl⟩ := h
    refine ⟨rfl, .pure hd fun E w act hS hF => ?_⟩
    have rx := ofOperand_ok hF hx
    rw [hp] at rx
    generalize hev : act.eval x = av at rx
    cases rx with
    | eptr _ _ b p cs f hb hat hc hr =>
      obtain ⟨el, fz, hw⟩ := hS.hH b cs hb
      obtain ⟨val, h2, h3⟩ := run_loadVar (P := P) hk h1 hw hat (fun j hj => ⟨f j, hc j hj, hr j hj⟩)
      exact ⟨val, by simp [execOp, hop, hev, Instr.loadAt, Instr.sureAddr, h2], h3⟩
  | ptr id ix c =>
    simp only [exLoad, Eff.run_rd, Option.map_eq_some_iff, Prod.mk.injEq] at h
    obtain ⟨v', h1, rfl, rfl⟩ := h
    refine ⟨rfl, .pure hd fun E w act hS hF => ?_⟩
    have rx := ofOperand_ok hF hx
    rw [hp] at rx
    generalize hev : act.eval x = av at rx
    cases rx with
    | ptr _ _ _ l hl =>
      cases hg : S.g id with
      | none => rw [hg] at h1; simp at h1
      | some bk =>
        rw [hg] at h1
        cases bk with
        | map e => simp at h1
        | arr es xs =>
          simp only [Option.bind_some] at h1
          cases hxi : xs[ix]? with
          | none => rw [hxi] at h1; simp at h1
          | some y =>
            rw [hxi] at h1
            simp only [Option.bind_some] at h1
            obtain ⟨l', e, hN, h2, h3, h4, h5, cs, el, h6, h7, h8⟩ := hS.live id _ hg
            rw [hl] at e; cases e
            obtain ⟨hixl, hye⟩ := List.getElem?_eq_some_iff.mp hxi
            have hfl := flat_at h4 ix hixl
            have hcells : ∀ j (hj : j < y.cells.length), ∃ u, cs[l.o + ix * l.es + j]? = some u ∧ Rep E (y.cells[j]) u := by
              intro j hj
              subst hye
              obtain ⟨hk', e⟩ := hfl j hj
              obtain ⟨u, a1, a2⟩ := h8 _ hk'
              rw [e] at a2
              refine ⟨u, ?_, a2⟩
              rw [h2, Nat.add_assoc]; exact a1
            have hat : ∀ z ∈ y.cells, z.atom = true := by
              intro z hz
              refine h5 z ?_
              simp only [flat, List.mem_flatMap]
              exact ⟨y, by rw [← hye]; exact List.getElem_mem hixl, hz⟩
            obtain ⟨val, h9, h10⟩ := run_loadVar (P := P) hk h1 h6 hat hcells
            exact ⟨val, by simp [execOp, hop, hev, Instr.loadAt, Instr.sureAddr, h9], h10⟩
  | _ => simp [exLoad] at h
end
end Go.Rf


set_option linter.unusedVariables false
set_option linter.unusedSimpArgs false
namespace Go.Rf
open Go.RowKit

theorem splice_get (cs : Array Value) (o : Nat) (vs : List Value) (h : o + vs.length ≤ cs.size) (j : Nat) :
    (cs.toList.take o ++ vs ++ cs.toList.drop (o + vs.length)).toArray[j]? = if o ≤ j ∧ j < o + vs.length then vs[j - o]? else cs[j]? := by
  have hl : (cs.toList.take o).length = o := by simp; omega
  simp only [List.getElem?_toArray]
  rcases Nat.lt_or_ge j o with h1 | h1
  · rw [List.append_assoc, List.getElem?_append_left (by omega), List.getElem?_take, if_pos h1, if_neg (by omega)]; simp
  · rw [List.append_assoc, List.getElem?_append_right (by omega), hl]
    rcases Nat.lt_or_ge j (o + vs.length) with h2 | h2
    · rw [List.getElem?_append_left (by omega), if_pos ⟨h1, h2⟩]
    · rw [List.getElem?_append_right (by omega), List.getElem?_drop, if_neg (by omega)]
      rw [show o + vs.length + (j - o - vs.length) = j by omega]; simp
theorem splice_size (cs : Array Value) (o : Nat) (vs : List Value) (h : o + vs.length ≤ cs.size) :
    (cs.toList.take o ++ vs ++ cs.toList.drop (o + vs.length)).toArray.size = cs.size := by
  simp; omega
theorem flat_atoms {xs : List AV} (h : ∀ y ∈ flat xs, y.atom = true) : ∀ x ∈ xs, ∀ y ∈ x.cells, y.atom = true := by
  intro x hx y hy
  exact h y (by simp only [flat, List.mem_flatMap]; exact ⟨x, hx, hy⟩)
/-- Some cells of a live array are written: what the block then is. -/
theorem BlkOk.put {E : Env} {w : World} {l : Loc} {es : Nat} {xs : List AV} (h : BlkOk E w l (.arr es xs)) (ix : Nat) (hix : ix < xs.length) {x : AV} {v : Value} (r : Rep E x v) (hs : x.solid = true) {c : Nat}
    (hc : c + x.cells.length ≤ (xs[ix]).cells.length) :
    ∃ cs el, w.heap[l.b]? = some (.cells cs el (0, 0)) ∧ l.o + ix * es + c + v.cells.size ≤ cs.size ∧ v.cells.size = x.cells.length ∧ (∀ u ∈ v.cells.toList, u.oneCell' = true) ∧
      BlkOk E (w.setRow l.b (cs.toList.take (l.o + ix * es + c) ++ v.cells.toList ++ cs.toList.drop (l.o + ix * es + c + v.cells.toList.length)).toArray) l (.arr es (xs.set ix (putc xs[ix] c x))) := by
  obtain ⟨h1, h2, h3, h4, cs, el, h5, h6, h7⟩ := h
  obtain ⟨r1, r2⟩ := r.cells hs
  have hy : (xs[ix]).cells.length = es := h3 _ (List.getElem_mem hix)
  have hbd : ix * es + es ≤ l.tot * es := by
    have : (ix + 1) * es ≤ l.tot * es := Nat.mul_le_mul_right _ (by omega)
    rw [Nat.add_mul, Nat.one_mul] at this; exact this
  have hat := r.cells_atom hs
  have hfit : l.o + ix * es + c + v.cells.toList.length ≤ cs.size := by simp only [Array.length_toList]; omega
  refine ⟨cs, el, h5, by simpa using hfit, r1, ?_, ?_⟩
  · intro u hu
    obtain ⟨j, hj, e⟩ := List.mem_iff_getElem.mp hu
    have hj' : j < x.cells.length := by rw [← r1]; simpa using hj
    have := r2 j hj'
    have e2 : v.cells.getD j undef = u := by
      rw [← e]; simp [Array.getD_eq_getD_getElem?]; rw [Array.getElem?_eq_getElem (by simpa using hj)]; rfl
    rw [e2] at this
    exact this.oneCell (hat _ (List.getElem_mem hj'))
  · have hz : (putc xs[ix] c x).cells.length = es := by rw [putc_length hc]; exact hy
    obtain ⟨hl, hget⟩ := flat_set h3 ix hix (x := x) (c := c) (by omega)
    refine ⟨h1, by simpa using h2, mem_set_cells h3 hz, ?_, _, el, setRow_heap w l.b cs _ el _ h5, by rw [splice_size _ _ _ hfit]; exact h6, ?_⟩
    · intro y hy'
      obtain ⟨k, hk, e⟩ := List.mem_iff_getElem.mp hy'
      rw [hget k (by omega)] at e
      split at e
      · rw [← e]; exact hat _ (List.getElem_mem _)
      · rw [← e]; exact h4 _ (List.getElem_mem _)
    · intro k hk
      rw [hget k (by omega)]
      rw [splice_get _ _ _ hfit]
      have hvl : v.cells.toList.length = x.cells.length := by simp [r1]
      by_cases hin : ix * es + c ≤ k ∧ k < ix * es + c + x.cells.length
      · rw [dif_pos hin, if_pos (by omega)]
        have hj : k - (ix * es + c) < x.cells.length := by omega
        refine ⟨v.cells.getD (k - (ix * es + c)) undef, ?_, r2 _ hj⟩
        rw [show l.o + k - (l.o + ix * es + c) = k - (ix * es + c) by omega]
        simp [Array.getD_eq_getD_getElem?]
        rw [Array.getElem?_eq_getElem (by omega)]; rfl
      · rw [dif_neg hin, if_neg (by omega)]
        exact h7 k (by omega)
def sizeK : Option Nat → Nat
  | none => 1
  | some m => m
theorem kindOf_size {P : Program} {t : TypeId} {k : Option Nat} (h : kindOf P t = some k) : ∃ i, P.info? t = some i ∧ i.size = sizeK k := by
  obtain ⟨d, i, _, hi, hor⟩ := kindOf_inv h
  rcases hor with ⟨_, rfl⟩ | ⟨_, rfl, hs⟩
  · exact ⟨i, hi, rfl⟩
  · exact ⟨i, hi, hs⟩
def exStore (m : Nat) (p x : AV) : Eff :=
  match p with
  | .ptr id ix c => .wr id fun
    | .arr es xs => (xs[ix]?).bind fun y => if x.solid = true ∧ x.cells.length = m ∧ c + m ≤ y.cells.length then some (.arr es (xs.set ix (putc y c x))) else none
    | _ => none
  | _ => .val none
section
variable {P : Program} {n : Nat} {o : Oper} {a : AF} {S : St} {nid : Nat} {v : AV}

theorem ok_store {t : TypeId} {p x : Operand} {Y X : Opd} {k : Option Nat} {S' : St} (hd : ∀ d, o.dst = some d → d < n) (hop : o.op = .store t p x) (hp : ofOperand p = some Y) (hx : ofOperand x = some X)
    (hk : kindOf P t = some k) (h : (exStore (sizeK k) (Y.ev a) (X.ev a)).run S nid = some (v, S')) : v = .junk ∧ OpOk P n o a S nid .junk S' := by
  generalize hpe : Y.ev a = q at h
  generalize hxe : X.ev a = y at h
  cases q with
  | ptr id ix c =>
    simp only [exStore, Eff.run_wr, Option.map_eq_some_iff, Prod.mk.injEq] at h
    obtain ⟨b', h1, h2, rfl⟩ := h
    refine ⟨h2.symm, .of_skip hd fun E w act hS hF _ _ => ?_⟩
    cases hg : S.g id with
    | none => rw [hg] at h1; simp at h1
    | some bk =>
      rw [hg] at h1
      cases bk with
      | map e => simp at h1
      | arr es xs =>
        simp only [Option.bind_some] at h1
        cases hxi : xs[ix]? with
        | none => rw [hxi] at h1; simp at h1
        | some z =>
          rw [hxi] at h1
          simp only [Option.bind_some] at h1
          split at h1
          · rename_i hcond
            obtain ⟨hso, hlen, hfit⟩ := hcond
            simp only [Option.some.injEq] at h1
            subst h1
            obtain ⟨hixl, hye⟩ := List.getElem?_eq_some_iff.mp hxi
            have rp := ofOperand_ok hF hp
            have rx := ofOperand_ok hF hx
            rw [hpe] at rp
            rw [hxe] at rx
            generalize hev : act.eval p = av at rp
            cases rp with
            | ptr _ _ _ l hl =>
              obtain ⟨l', e, hN, ok⟩ := hS.live id _ hg
              rw [hl] at e; cases e
              subst hye
              obtain ⟨cs, el, g1, g2, g3, g4, g5⟩ := ok.put ix hixl rx hso (c := c) (by omega)
              obtain ⟨i, hi, hsz⟩ := kindOf_size hk
              have hes : l.es = es := ok.1
              have hst := run_storeCells_at P l.b (l.o + ix * es + c) el (act.eval x).cells.toList 0 cs w g1 (by simpa using g2) g4
              simp only [Nat.add_zero] at hst
              refine ⟨_, E, ?_, hS.write hg hl (fun b hb => setRow_other w l.b b _ hb) g5, ?_, fun hpu => by simp [pureOp, hop] at hpu, fun _ _ e => e⟩
              · have heq : (act.eval x).cells.size = i.size := by rw [g3, hlen, hsz]
                have hp1 : ∀ (A : Addr), (Sem.run P (pure A) w : Result Addr) = .ok A w := fun _ => rfl
                simp only [execOp, hop, hev, Instr.storeAt, Instr.sureAddr, storeVar, Sem.run_bind, run_sizeOf hi, Result.andThen_ok, hes, hp1, heq, ne_eq, not_true_eq_false, if_false, hst]
                rfl
              · exact .write hg hl rfl rfl rfl (by simp [World.setRow]) (fun b hb => setRow_other w l.b b _ hb)
          · cases h1
  | _ => simp [exStore] at h
/-- A new array of one element: a variable. -/
def exBox (es : Nat) (x : AV) : Eff := .new (if x.solid = true ∧ x.cells.length = es then some (.arr es [x], fun i => .ptr i 0 0) else none)
theorem blk_new {E : Env} {S : St} {w : World} (hS : Sim E S w) {es : Nat} {xs : List AV} {cs : Array Value} (el : TypeId) (tot : Nat) (hes : ∀ x ∈ xs, x.cells.length = es) (hat : ∀ y ∈ flat xs, y.atom = true) (ht : xs.length ≤ tot)
    (hcs : tot * es ≤ cs.size) (hr : ∀ k (h : k < (flat xs).length), ∃ v, cs[k]? = some v ∧ Rep E ((flat xs)[k]) v) :
    BlkOk E (w.alloc (.cells cs el)) ⟨w.heap.size, 0, es, tot⟩ (.arr es xs) :=
  ⟨rfl, ht, hes, hat, cs, el, heap_alloc_new w _, by simpa using hcs, fun k hk => by simpa using hr k hk⟩
theorem OpOk.alloc {es : Nat} {xs : List AV} {f : Nat → AV} (hd : ∀ d, o.dst = some d → d < n) (hpu : pureOp o.op = false) (hes : ∀ x ∈ xs, x.cells.length = es)
    (h : ∀ E w act, Sim E S w → RepF E n a act → ∃ val cs el tot w1, w1.heap.size = w.heap.size ∧ Sim E S w1 ∧ Evo E S w E S w1 ∧ (execOp act.eval o).run P w = .ok (.value val) (w1.alloc (.cells cs el)) ∧ (∀ y ∈ flat xs, y.atom = true) ∧ xs.length ≤ tot ∧
      tot * es ≤ cs.size ∧ (∀ k (hk : k < (flat xs).length), ∃ u, cs[k]? = some u ∧ Rep E ((flat xs)[k]) u) ∧ ∀ E', E'.ρ nid = some ⟨w.heap.size, 0, es, tot⟩ → Rep E' (f nid) val) :
    OpOk P n o a S nid (f nid) (S.set nid (some (.arr es xs))) := by
  refine .of_run hd fun E w act hS hF hn hlt => ?_
  obtain ⟨val, cs, el, tot, w1, h0, hS1, hE1, h1, h2, h3, h4, h5, h6⟩ := h E w act hS hF
  have hb := blk_new hS1 (xs := xs) (cs := cs) el tot hes h2 h3 h4 h5
  rw [h0] at hb
  refine ⟨val, _, E.loc nid ⟨w.heap.size, 0, es, tot⟩, h1, hS1.alloc hn hlt _ _ (by rw [h0]) _ hb, hE1.trans (.alloc hn _ _ (by rw [h0]) _), h6 _ (by simp [Env.loc]), fun hp => absurd hp (by rw [hpu]; simp), fun i hi e => ?_⟩
  simp [Env.loc, updF, hi, e]
theorem flat_one (x : AV) : flat [x] = x.cells := by simp [flat]
theorem ok_box {t : TypeId} {x : Operand} {X : Opd} {k : Option Nat} {S' : St} (hd : ∀ d, o.dst = some d → d < n) (hop : o.op = .box t x) (hx : ofOperand x = some X)
    (h : (exBox (sizeK k) (X.ev a)).run S nid = some (v, S')) : OpOk P n o a S nid v S' := by
  simp only [exBox, Eff.run_new, Option.map_eq_some_iff, Prod.mk.injEq] at h
  obtain ⟨p, h1, rfl, rfl⟩ := h
  split at h1
  · rename_i hc
    obtain ⟨hso, hlen⟩ := hc
    cases h1
    refine OpOk.alloc (f := fun i => .ptr i 0 0) hd (by rw [hop]; rfl) (by simpa using hlen) fun E w act hS hF => ?_
    have rx := ofOperand_ok hF hx
    obtain ⟨r1, r2⟩ := rx.cells hso
    refine ⟨_, (act.eval x).cells, t, 1, w, rfl, hS, .refl _ _ _, by simp [execOp, hop, Instr.box, newVar, newRow]; rfl, ?_, by simp, by rw [Nat.one_mul, r1]; omega, ?_, ?_⟩
    · rw [flat_one]; exact rx.cells_atom hso
    · intro j hj
      simp only [flat_one] at hj ⊢
      refine ⟨(act.eval x).cells.getD j undef, ?_, r2 j hj⟩
      simp [Array.getD_eq_getD_getElem?]
      rw [Array.getElem?_eq_getElem (by omega)]; rfl
    · intro E' he
      have := Rep.ptr (E := E') nid 0 0 _ he
      simpa using this
  · cases h1
end
end Go.Rf


set_option linter.unusedVariables false
set_option linter.unusedSimpArgs false
namespace Go.Rf
open Go.RowKit

def fieldOff (P : Program) (s : TypeId) (f : Nat) : Option Nat :=
  match P.underlying s with
  | some (.struct fs) => match fs[f]? with
    | some fd => match P.info? fd.type with
      | some i => if i.size = 0 then none else some fd.offset
      | none => none
    | none => none
  | _ => none
def exFieldA (off : Nat) : AV → Option AV
  | .ptr id ix c => some (.ptr id ix (c + off))
  | .eptr x c => some (.eptr x (c + off))
  | _ => none
def sliceSz (P : Program) (t : TypeId) : Option Nat :=
  match P.underlying t with
  | some (.slice e) => (P.info? e).map (·.size)
  | _ => none
def exIdxA (es : Nat) (x i : AV) : Eff :=
  match x, i with
  | .sl _ xs, .v (.int _ n) => .val ((xs[n.toNat]?).bind fun y => if 0 ≤ n ∧ y.cells.length = es then some (.eptr y 0) else none)
  | .own id off len, .v (.int _ n) => .rd id fun
    | .arr es' xs => if es' = es ∧ 0 ≤ n ∧ n < len ∧ off + len ≤ xs.length then some (.ptr id (off + n.toNat) 0) else none
    | _ => none
  | _, _ => .val none
def arrSz (P : Program) (t : TypeId) : Option (Nat × Nat) :=
  match P.underlying t with
  | some (.array m e) => (P.info? e).map fun i => (m, i.size)
  | _ => none
def exIdxP (m es : Nat) (p i : AV) : Option AV :=
  match p, i with
  | .ptr id ix c, .v (.int _ n) => if 0 ≤ n ∧ n < m then some (.ptr id ix (c + n.toNat * es)) else none
  | .eptr x c, .v (.int _ n) => if 0 ≤ n ∧ n < m then some (.eptr x (c + n.toNat * es)) else none
  | _, _ => none
def exLen : AV → Option AV
  | .sl _ xs => some (.v (.int .i64 xs.length))
  | .own _ _ len => some (.v (.int .i64 len))
  | _ => none
def exLenS : AV → Option AV
  | .v (.string s) => some (.v (.int .i64 s.size))
  | _ => none
def exExt (i : Nat) : AV → Option AV
  | .tup vs => vs[i]?
  | _ => none
def exPick (c x y : AV) : Option AV :=
  match c with
  | .v (.bool b) => some (if b = true then x else y)
  | _ => none
def exUn (op : UnOp) (x : AV) : Option AV :=
  match op, x with
  | .not, .v (.bool b) => some (.v (.bool (!b)))
  | .neg, .v (.int k m) => some (.v (.int k (k.wrap (0 - m))))
  | _, _ => none
def exConv (k : IntKind) : AV → Option AV
  | .v (.int _ m) => some (.v (.int k (k.wrap m)))
  | _ => none
def intOf? (P : Program) (src dst : TypeId) : Option IntKind :=
  match P.underlying src, P.underlying dst with
  | some _, some (.int k) => some k
  | _, _ => none
def exField (k : Option Nat) (off : Nat) : AV → Option AV
  | .agg cs => subc k (.agg cs) off
  | _ => none
def fieldK (P : Program) (s : TypeId) (f : Nat) : Option (Nat × Option Nat) :=
  match P.underlying s with
  | some (.struct fs) => match fs[f]? with
    | some fd => (kindOf P fd.type).map fun k => (fd.offset, k)
    | none => none
  | _ => none
def exIdxV (m es : Nat) (k : Option Nat) (x i : AV) : Option AV :=
  match x, i with
  | .agg cs, .v (.int _ n) => if 0 ≤ n ∧ n < m then subc k (.agg cs) (n.toNat * es) else none
  | _, _ => none
def arrK (P : Program) (t : TypeId) : Option (Nat × Nat × Option Nat) :=
  match P.underlying t with
  | some (.array m e) => match P.info? e with
    | some i => (kindOf P e).map fun k => (m, i.size, k)
    | none => none
  | _ => none
def exIdxS (x i : AV) : Option AV :=
  match x, i with
  | .v (.string s), .v (.int _ n) => if 0 ≤ n then (s[n.toNat]?).map fun b => .v (.int .u8 b.toNat) else none
  | _, _ => none
section
variable {P : Program} {n : Nat} {o : Oper} {a : AF} {S : St} {nid : Nat} {v : AV}

theorem ok_fieldA {s : TypeId} {x : Operand} {X : Opd} {f off : Nat} (hd : ∀ d, o.dst = some d → d < n) (hop : o.op = .fieldAddr s x f) (hx : ofOperand x = some X) (hf : fieldOff P s f = some off)
    (h : exFieldA off (X.ev a) = some v) : OpOk P n o a S nid v S := by
  refine .pure hd fun E w act hS hF => ?_
  have rx := ofOperand_ok hF hx
  unfold fieldOff at hf
  split at hf
  · rename_i fs hu
    split at hf
    · rename_i fd hfd
      split at hf
      · rename_i i hi
        split at hf
        · cases hf
        · rename_i hz
          cases hf
          have run : ∀ A, act.eval x = .pointer (some A) → (execOp act.eval o).run P w = .ok (.value (.pointer (some (A.add fd.offset)))) w := by
            intro A hA
            simp [execOp, hop, hA, Instr.fieldAt, Instr.sureAddr, run_underlying hu, hfd, fieldPlace, run_sizeOf hi, hz]
          generalize hp : X.ev a = p at rx h
          generalize hev : act.eval x = av at rx
          cases rx with
          | ptr id ix c l hl =>
            simp [exFieldA] at h; subst h
            refine ⟨_, run _ hev, ?_⟩
            rw [addr_add, Nat.add_assoc]
            exact .ptr id ix _ l hl
          | eptr y c b p cs g hb hat hc hr =>
            simp [exFieldA] at h; subst h
            refine ⟨_, run _ hev, ?_⟩
            rw [addr_add, Nat.add_assoc]
            exact .eptr y _ b p cs g hb hat hc hr
          | _ => simp [exFieldA] at h
      · cases hf
    · cases hf
  · cases hf
theorem ok_idxA {t : TypeId} {x i : Operand} {X I : Opd} {es : Nat} {S' : St} (hd : ∀ d, o.dst = some d → d < n) (hop : o.op = .indexAddr t x i) (hx : ofOperand x = some X) (hi : ofOperand i = some I)
    (ht : sliceSz P t = some es) (h : (exIdxA es (X.ev a) (I.ev a)).run S nid = some (v, S')) : S' = S ∧ OpOk P n o a S nid v S := by
  generalize hxe : X.ev a = y at h
  generalize hie : I.ev a = j at h
  unfold sliceSz at ht
  split at ht
  · rename_i e hu
    simp only [Option.map_eq_some_iff] at ht
    obtain ⟨ie, hie2, rfl⟩ := ht
    unfold exIdxA at h
    split at h
    · rename_i t' xs k m
      simp only [Eff.run_val, Option.map_eq_some_iff, Prod.mk.injEq] at h
      obtain ⟨v', h1, rfl, rfl⟩ := h
      refine ⟨rfl, .pure hd fun E w act hS hF => ?_⟩
      have rx := ofOperand_ok hF hx
      have ri := ofOperand_ok hF hi
      rw [hxe] at rx
      rw [hie] at ri
      have ei := ri.v_inv
      simp only [Option.bind_eq_some_iff] at h1
      obtain ⟨z, hz, h2⟩ := h1
      split at h2
      · rename_i hcond
        cases h2
        obtain ⟨hlt, hze⟩ := List.getElem?_eq_some_iff.mp hz
        generalize hev : act.eval x = av at rx
        cases rx with
        | sl0 _ A cap htt => simp at hlt
        | sl _ _ b p cap cs es' f hne hb hes hcap htt hat hc hr =>
          have hes' : es' = ie.size := by rw [← hes z (by rw [← hze]; exact List.getElem_mem hlt)]; exact hcond.2
          subst hes'
          have hm : m < (xs.length : Int) := by omega
          refine ⟨.pointer (some ⟨b, (p + m.toNat * ie.size) + 0, none⟩), ?_, .eptr z 0 b (p + m.toNat * ie.size) cs (fun k => f (m.toNat * ie.size + k)) hb ?_ ?_ ?_⟩
          · simp only [execOp, hop, hev, ei]
            have hm2 : ¬ (xs.length : Int) ≤ m := by omega
            simp [Instr.indexAt, asIntOf, run_underlying hu, hcond.1, hm, run_sizeOf hie2, addr_add]
          · intro y hy
            exact flat_atoms hat z (by rw [← hze]; exact List.getElem_mem hlt) y hy
          · intro k hk
            subst hze
            obtain ⟨hk', _⟩ := flat_at hes m.toNat hlt k hk
            rw [Nat.add_assoc]; exact hc _ hk'
          · intro k hk
            subst hze
            obtain ⟨hk', e3⟩ := flat_at hes m.toNat hlt k hk
            rw [← e3]; exact hr _ hk'
      · cases h2
    · rename_i id off len k m
      simp only [Eff.run_rd, Option.map_eq_some_iff, Prod.mk.injEq] at h
      obtain ⟨v', h1, rfl, rfl⟩ := h
      refine ⟨rfl, .pure hd fun E w act hS hF => ?_⟩
      have rx := ofOperand_ok hF hx
      have ri := ofOperand_ok hF hi
      rw [hxe] at rx
      rw [hie] at ri
      have ei := ri.v_inv
      cases hg : S.g id with
      | none => rw [hg] at h1; simp at h1
      | some bk =>
        rw [hg] at h1
        cases bk with
        | map e => simp at h1
        | arr es' xs =>
          simp only [Option.bind_some] at h1
          split at h1
          · rename_i hcond
            cases h1
            obtain ⟨c1, c2, c3, c4⟩ := hcond
            generalize hev : act.eval x = av at rx
            cases rx with
            | own _ _ _ A cap l hl hlen hA =>
              obtain ⟨l', e, hN, ok⟩ := hS.live id _ hg
              rw [hl] at e; cases e
              have hes : l.es = es' := ok.1
              obtain ⟨hA1, hA2⟩ := hA (by omega)
              refine ⟨.pointer (some ⟨l.b, l.o + (off + m.toNat) * l.es + 0, none⟩), ?_, .ptr id _ 0 l hl⟩
              simp only [execOp, hop, hev, ei, hA1]
              simp [Instr.indexAt, asIntOf, run_underlying hu, c2, c3, run_sizeOf hie2, addr_add]
              rw [hes, c1, Nat.add_mul]; omega
          · cases h1
    · simp at h
  · cases ht
theorem ok_ext {x : Operand} {X : Opd} {i : Nat} (hd : ∀ d, o.dst = some d → d < n) (hop : o.op = .extract x i) (hx : ofOperand x = some X) (h : exExt i (X.ev a) = some v) : OpOk P n o a S nid v S := by
  refine .pure hd fun E w act hS hF => ?_
  have rx := ofOperand_ok hF hx
  generalize X.ev a = p at rx h
  generalize hev : act.eval x = av at rx
  cases rx with
  | tup cs vs hn hr =>
    simp only [exExt] at h
    obtain ⟨hlt, e⟩ := List.getElem?_eq_some_iff.mp h
    have hv : vs[i]? = some (vs.getD i undef) := by
      simp [Array.getD_eq_getD_getElem?]; rw [Array.getElem?_eq_getElem (by omega)]; rfl
    refine ⟨vs.getD i undef, ?_, by rw [← e]; exact hr i hlt⟩
    simp only [execOp, hop, hev, Instr.extract, hv]
    rfl
  | _ => simp [exExt] at h
theorem ok_pick {c x y : Operand} {C X Y : Opd} (hd : ∀ d, o.dst = some d → d < n) (hop : o.op = .pick c x y) (hc : ofOperand c = some C) (hx : ofOperand x = some X) (hy : ofOperand y = some Y)
    (h : exPick (C.ev a) (X.ev a) (Y.ev a) = some v) : OpOk P n o a S nid v S := by
  refine .pure hd fun E w act hS hF => ?_
  have rc := ofOperand_ok hF hc
  have rx := ofOperand_ok hF hx
  have ry := ofOperand_ok hF hy
  unfold exPick at h
  split at h
  · rename_i b hb
    rw [hb] at rc
    have ec := rc.v_inv
    cases h
    refine ⟨if b = true then act.eval x else act.eval y, by simp [execOp, hop, ec, asBool], ?_⟩
    cases b <;> simp [rx, ry]
  · cases h
theorem ok_un {op : UnOp} {t : TypeId} {x : Operand} {X : Opd} (hd : ∀ d, o.dst = some d → d < n) (hop : o.op = .unOp op t x) (hx : ofOperand x = some X) (h : exUn op (X.ev a) = some v) : OpOk P n o a S nid v S := by
  refine .pure hd fun E w act hS hF => ?_
  have rx := ofOperand_ok hF hx
  generalize X.ev a = p at rx h
  unfold exUn at h
  split at h
  · have e := rx.v_inv; cases h
    exact ⟨_, by simp only [execOp, hop, e, Op.unary]; rfl, .v _ rfl⟩
  · have e := rx.v_inv; cases h
    exact ⟨_, by simp only [execOp, hop, e, Op.unary, Op.intArith]; rfl, .v _ rfl⟩
  · cases h
theorem ok_conv {s t : TypeId} {x : Operand} {X : Opd} {k : IntKind} (hd : ∀ d, o.dst = some d → d < n) (hop : o.op = .convert s t x) (hx : ofOperand x = some X) (hk : intOf? P s t = some k) (h : exConv k (X.ev a) = some v) : OpOk P n o a S nid v S := by
  refine .pure hd fun E w act hS hF => ?_
  have rx := ofOperand_ok hF hx
  generalize X.ev a = p at rx h
  unfold intOf? at hk
  split at hk
  · rename_i d k' h1 h2
    cases hk
    unfold exConv at h
    split at h
    · have e := rx.v_inv; cases h
      refine ⟨_, ?_, .v _ rfl⟩
      simp only [execOp, hop, e, convert, Sem.run_bind, run_underlying h1, run_underlying h2, Result.andThen_ok]
      cases d <;> rfl
    · cases h
  · cases hk
theorem ok_len {t : TypeId} {x : Operand} {X : Opd} {e : TypeId} (hd : ∀ d, o.dst = some d → d < n) (hop : o.op = .call { callee := .builtin .len, args := #[x], argTypes := #[t] }) (hx : ofOperand x = some X)
    (hu : P.underlying t = some (.slice e)) (h : exLen (X.ev a) = some v) : OpOk P n o a S nid v S := by
  refine .pure hd fun E w act hS hF => ?_
  have rx := ofOperand_ok hF hx
  generalize X.ev a = p at rx h
  generalize hev : act.eval x = av at rx
  have run : ∀ A m c, av = .slice A m c → (execOp act.eval o).run P w = .ok (.value (.int .i64 m)) w := by
    intro A m c e
    subst e
    simp [execOp, hop, resolve, invoke, builtin, Builtin.len_, hev, run_underlying hu, goInt]
  cases rx with
  | sl0 t' A cap ht => simp [exLen] at h; subst h; exact ⟨_, run _ _ _ rfl, .v _ rfl⟩
  | sl t' xs b p cap cs es f hne hb hes hcap ht hat hc hr => simp [exLen] at h; subst h; exact ⟨_, run _ _ _ rfl, .v _ rfl⟩
  | own id off len A cap l hl hlen hA => simp [exLen] at h; subst h; exact ⟨_, run _ _ _ rfl, .v _ rfl⟩
  | _ => simp [exLen] at h
def exMM (mx : Bool) (x y : AV) : Option AV :=
  match x, y with
  | .v (.int k a), .v (.int _ b) => some (.v (.int k (if mx = true then (if b > a then b else a) else (if b < a then b else a))))
  | _, _ => none
theorem ok_mm {mx : Bool} {bi : Builtin} (hb : (mx = true ∧ bi = .max) ∨ (mx = false ∧ bi = .min)) {t u : TypeId} {x y : Operand} {X Y : Opd} (hd : ∀ d, o.dst = some d → d < n) (hop : o.op = .call { callee := .builtin bi, args := #[x, y], argTypes := #[t, u] }) (hx : ofOperand x = some X) (hy : ofOperand y = some Y)
    (h : exMM mx (X.ev a) (Y.ev a) = some v) : OpOk P n o a S nid v S := by
  refine .pure hd fun E w act hS hF => ?_
  have rx := ofOperand_ok hF hx
  have ry := ofOperand_ok hF hy
  generalize X.ev a = p at rx h
  generalize Y.ev a = q at ry h
  unfold exMM at h
  split at h
  · have e1 := rx.v_inv
    have e2 := ry.v_inv
    cases h
    rcases hb with ⟨rfl, rfl⟩ | ⟨rfl, rfl⟩
    · exact ⟨_, by simp [execOp, hop, resolve, invoke, builtin, Builtin.max_, Builtin.max2, e1, e2], .v _ rfl⟩
    · exact ⟨_, by simp [execOp, hop, resolve, invoke, builtin, Builtin.min_, Builtin.min2, e1, e2], .v _ rfl⟩
  · cases h
theorem ok_lenS {t : TypeId} {x : Operand} {X : Opd} (hd : ∀ d, o.dst = some d → d < n) (hop : o.op = .call { callee := .builtin .len, args := #[x], argTypes := #[t] }) (hx : ofOperand x = some X)
    (hu : P.underlying t = some .string) (h : exLenS (X.ev a) = some v) : OpOk P n o a S nid v S := by
  refine .pure hd fun E w act hS hF => ?_
  have rx := ofOperand_ok hF hx
  generalize X.ev a = p at rx h
  unfold exLenS at h
  split at h
  · have e := rx.v_inv; cases h
    exact ⟨.int .i64 _, by simp [execOp, hop, resolve, invoke, builtin, Builtin.len_, e, run_underlying hu, goInt], .v _ rfl⟩
  · cases h
theorem ok_mkf {f : FuncId} {first cap : Array Operand} {F C : List Opd} (hd : ∀ d, o.dst = some d → d < n) (hop : o.op = .makeFunc (.func f) first cap)
    (hf : first.toList.mapM ofOperand = some F) (hc : cap.toList.mapM ofOperand = some C) : OpOk P n o a S nid (.clo f (F.map (·.ev a)) (C.map (·.ev a))) S := by
  refine .pure hd fun E w act hS hF => ?_
  have key : ∀ (l : List Operand) (ys : List Opd), l.mapM ofOperand = some ys → ys.length = l.length ∧ ∀ j (h : j < (ys.map (·.ev a)).length), Rep E ((ys.map (·.ev a))[j]) ((l.map act.eval).getD j undef) := by
    intro l
    induction l with
    | nil => intro ys h; simp at h; subst h; simp
    | cons x l ih =>
      intro ys h
      simp only [List.mapM_cons, Option.bind_eq_bind, Option.bind_eq_some_iff, Option.pure_def, Option.some.injEq] at h
      obtain ⟨y, hy, zs, hz, rfl⟩ := h
      obtain ⟨h1, h2⟩ := ih zs hz
      refine ⟨by simp [h1], fun j hj => ?_⟩
      cases j with
      | zero => simpa using ofOperand_ok hF hy
      | succ j =>
        have := h2 j (by simpa using hj)
        rw [List.getElem_map] at this
        simpa using this
  obtain ⟨a1, a2⟩ := key _ _ hf
  obtain ⟨b1, b2⟩ := key _ _ hc
  refine ⟨.func (.func f) (first.map act.eval) (cap.map act.eval), by simp only [execOp, hop, Instr.makeFunc]; rfl, ?_⟩
  refine .clo f _ _ _ _ (by simp [a1]) (by simp [b1]) (fun j hj => ?_) (fun j hj => ?_)
  · have := a2 j hj
    simpa [Array.getD_eq_getD_getElem?, List.getD_eq_getElem?_getD] using this
  · have := b2 j hj
    simpa [Array.getD_eq_getD_getElem?, List.getD_eq_getElem?_getD] using this
end
end Go.Rf

