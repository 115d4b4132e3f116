import Derived.Test.YtpllebbaahanjaaRfOps1
set_option linter.unusedVariables false
set_option linter.unusedSimpArgs false
namespace Go.Rf
open Go.RowKit

def isAggD : TypeDesc → Bool
  | .struct _ | .array _ _ => true
  | _ => false
/-- none: one cell; some m: a struct or an array of m cells. -/
def kindOf (P : Program) (t : TypeId) : Option (Option Nat) :=
  match P.underlying t with
  | none => none
  | some d => match P.info? t with
    | none => none
    | some i => if isAggD d then some (some i.size) else if i.size = 1 then some none else none
theorem kindOf_inv {P : Program} {t : TypeId} {k : Option Nat} (h : kindOf P t = some k) : ∃ d i, P.underlying t = some d ∧ P.info? t = some i ∧
    ((isAggD d = true ∧ k = some i.size) ∨ (isAggD d = false ∧ k = none ∧ i.size = 1)) := by
  unfold kindOf at h
  split at h
  · cases h
  · rename_i d hd
    split at h
    · cases h
    · rename_i i hi
      split at h
      · rename_i hag; cases h; exact ⟨d, i, hd, hi, .inl ⟨hag, rfl⟩⟩
      · split at h
        · rename_i hag hs; cases h; exact ⟨d, i, hd, hi, .inr ⟨by simpa using hag, rfl, hs⟩⟩
        · cases h
theorem run_isAgg {P : Program} {t : TypeId} {d : TypeDesc} (h : P.underlying t = some d) (w : World) : (isAgg t).run P w = .ok (isAggD d) w := by
  simp only [isAgg, Sem.run_bind, run_underlying h, Result.andThen_ok]
  cases d <;> rfl
theorem run_sizeOf {P : Program} {t : TypeId} {i : TypeInfo} (h : P.info? t = some i) (w : World) : (sizeOf t).run P w = .ok i.size w := by
  simp [sizeOf, typeInfo, h]
/-- Part of a value's cells. -/
def subc (k : Option Nat) (x : AV) (c : Nat) : Option AV :=
  match k with
  | none => x.cells[c]?
  | some m => if c + m ≤ x.cells.length then some (.agg ((x.cells.drop c).take m)) else none
section
variable {P : Program} {n : Nat} {o : Oper} {a : AF} {S : St} {nid : Nat} {v : AV}

/-- A load at an address whose cells stand for x's. -/
theorem run_loadVar {E : Env} {w : World} {t : TypeId} {k : Option Nat} (hk : kindOf P t = some k) {x : AV} {c : Nat} (h : subc k x c = some v) {b p : Nat} {cs : Array Value} {el : TypeId} {fz : Nat × Nat}
    (hw : w.heap[b]? = some (.cells cs el fz)) (hat : ∀ y ∈ x.cells, y.atom = true) (hc : ∀ j (hj : j < x.cells.length), ∃ u, cs[p + j]? = some u ∧ Rep E (x.cells[j]) u) :
    ∃ val, (loadVar t ⟨b, p + c, none⟩).run P w = .ok val w ∧ Rep E v val := by
  obtain ⟨d, i, hu, hi, hor⟩ := kindOf_inv hk
  rcases hor with ⟨hag, rfl⟩ | ⟨hag, rfl, hs⟩
  · unfold subc at h
    simp only at h
    split at h
    · rename_i hle
      cases h
      have hl : ((x.cells.drop c).take i.size).length = i.size := by simp; omega
      let us := (List.range i.size).map fun j => cs.getD (p + c + j) undef
      have hus : us.length = i.size := by simp [us]
      have hrd : ∀ j v, us[j]? = some v → w.cell? ((⟨b, p + c, none⟩ : Addr).add j) = some v := by
        intro j v hv
        have hj : j < i.size := by have := (List.getElem?_eq_some_iff.mp hv).1; omega
        obtain ⟨u, h1, _⟩ := hc (c + j) (by omega)
        rw [addr_add, cell_of_heap hw, show p + c + j = p + (c + j) by omega, h1]
        simp [us, hj, Array.getD_eq_getD_getElem?, show p + c + j = p + (c + j) by omega, h1] at hv
        rw [hv]
      have hr := run_loadCells_list (P := P) w ⟨b, p + c, none⟩ us hrd
      rw [hus] at hr
      refine ⟨.agg us.toArray, ?_, .agg _ _ (by simp [hus, hl]) (fun y hy => hat y (List.mem_of_mem_drop (List.mem_of_mem_take hy))) (fun j hj => ?_)⟩
      · simp only [loadVar, Sem.run_bind, run_isAgg hu, Result.andThen_ok, hag, if_true, run_sizeOf hi, hr]
        rfl
      · rw [hl] at hj
        obtain ⟨u, h1, h2⟩ := hc (c + j) (by omega)
        have e1 : us.toArray.getD j undef = u := by
          simp [us, hj, Array.getD_eq_getD_getElem?, show p + c + j = p + (c + j) by omega, h1]
        rw [e1]
        simpa [List.getElem_take, List.getElem_drop] using h2
    · cases h
  · unfold subc at h
    simp only at h
    obtain ⟨hlt, e⟩ := List.getElem?_eq_some_iff.mp h
    obtain ⟨u, h1, h2⟩ := hc c hlt
    refine ⟨u, ?_, by rw [← e]; exact h2⟩
    simp only [loadVar, Sem.run_bind, run_isAgg hu, Result.andThen_ok, hag]
    simp [run_load, cell_of_heap hw, h1]
def exLoad (k : Option Nat) (p : AV) : Eff :=
  match p with
  | .eptr x c => .val (subc k x c)
  | .ptr id ix c => .rd id fun | .arr _ xs => (xs[ix]?).bind fun x => subc k x c | _ => none
  | _ => .val none
theorem ok_load {t : TypeId} {x : Operand} {X : Opd} {k : Option Nat} {S' : St} (hd : ∀ d, o.dst = some d → d < n) (hop : o.op = .load t x) (hx : ofOperand x = some X) (hk : kindOf P t = some k)
    (h : (exLoad k (X.ev a)).run S nid = some (v, S')) : S' = S ∧ OpOk P n o a S nid v S := by
  generalize hp : X.ev a = p at h
  cases p with
  | eptr y c =>
    simp only [exLoad, Eff.run_val, Option.map_eq_some_iff, Prod.mk.injEq] at h
    obtain ⟨v', h1, rfl, rfl⟩ := h
    refine ⟨rfl, .pure hd fun E w act hS hF => ?_⟩
    have rx := ofOperand_ok hF hx
    rw [hp] at rx
    generalize hev : act.eval x = av at rx
    cases rx with
    | eptr _ _ b p cs f hb hat hc hr =>
      obtain ⟨el, fz, hw⟩ := hS.hH b cs hb
      obtain ⟨val, h2, h3⟩ := run_loadVar (P := P) hk h1 hw hat (fun j hj => ⟨f j, hc j hj, hr j hj⟩)
      exact ⟨val, by simp [execOp, hop, hev, Instr.loadAt, Instr.sureAddr, h2], h3⟩
  | ptr id ix c =>
    simp only [exLoad, Eff.run_rd, Option.map_eq_some_iff, Prod.mk.injEq] at h
    obtain ⟨v', h1, rfl, rfl⟩ := h
    refine ⟨rfl, .pure hd fun E w act hS hF => ?_⟩
    have rx := ofOperand_ok hF hx
    rw [hp] at rx
    generalize hev : act.eval x = av at rx
    cases rx with
    | ptr _ _ _ l hl =>
      cases hg : S.g id with
      | none => rw [hg] at h1; simp at h1
      | some bk =>
        rw [hg] at h1
        cases bk with
        | map e => simp at h1
        | arr es xs =>
          simp only [Option.bind_some] at h1
          cases hxi : xs[ix]? with
          | none => rw [hxi] at h1; simp at h1
          | some y =>
            rw [hxi] at h1
            simp only [Option.bind_some] at h1
            obtain ⟨l', e, hN, h2, h3, h4, h5, cs, el, h6, h7, h8⟩ := hS.live id _ hg
            rw [hl] at e; cases e
            obtain ⟨hixl, hye⟩ := List.getElem?_eq_some_iff.mp hxi
            have hfl := flat_at h4 ix hixl
            have hcells : ∀ j (hj : j < y.cells.length), ∃ u, cs[l.o + ix * l.es + j]? = some u ∧ Rep E (y.cells[j]) u := by
              intro j hj
              subst hye
              obtain ⟨hk', e⟩ := hfl j hj
              obtain ⟨u, a1, a2⟩ := h8 _ hk'
              rw [e] at a2
              refine ⟨u, ?_, a2⟩
              rw [h2, Nat.add_assoc]; exact a1
            have hat : ∀ z ∈ y.cells, z.atom = true := by
              intro z hz
              refine h5 z ?_
              simp only [flat, List.mem_flatMap]
              exact ⟨y, by rw [← hye]; exact List.getElem_mem hixl, hz⟩
            obtain ⟨val, h9, h10⟩ := run_loadVar (P := P) hk h1 h6 hat hcells
            exact ⟨val, by simp [execOp, hop, hev, Instr.loadAt, Instr.sureAddr, h9], h10⟩
  | _ => simp [exLoad] at h
end
end Go.Rf

