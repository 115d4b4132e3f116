import Derived.Test.YtpllebbaahanjaaRfApp
set_option linter.unusedVariables false
set_option linter.unusedSimpArgs false
namespace Go.Rf
open Go.RowKit

/-- What a parts' filling makes of cells. -/
def afill (cs : List AV) : List (Nat × Nat × AV) → Option (List AV)
  | [] => some cs
  | (off, sz, x) :: r => if x.solid = true ∧ x.cells.length = sz ∧ off + sz ≤ cs.length then afill (cs.take off ++ x.cells ++ cs.drop (off + sz)) r else none
/-- Cells that stand for others, one by one. -/
def RepL (E : Env) (ys : List AV) (cs : Array Value) : Prop := cs.size = ys.length ∧ (∀ y ∈ ys, y.atom = true) ∧ ∀ k (h : k < ys.length), ∃ v, cs[k]? = some v ∧ Rep E (ys[k]) v
theorem lsplice_get (cs : List AV) (o : Nat) (vs : List AV) (h : o + vs.length ≤ cs.length) (j : Nat) :
    (cs.take o ++ vs ++ cs.drop (o + vs.length))[j]? = if o ≤ j ∧ j < o + vs.length then vs[j - o]? else cs[j]? := by
  have hl : (cs.take o).length = o := by simp; omega
  rcases Nat.lt_or_ge j o with h1 | h1
  · rw [List.append_assoc, List.getElem?_append_left (by omega), List.getElem?_take, if_pos h1, if_neg (by omega)]
  · rw [List.append_assoc, List.getElem?_append_right (by omega), hl]
    rcases Nat.lt_or_ge j (o + vs.length) with h2 | h2
    · rw [List.getElem?_append_left (by omega), if_pos ⟨h1, h2⟩]
    · rw [List.getElem?_append_right (by omega), List.getElem?_drop, if_neg (by omega)]
      rw [show o + vs.length + (j - o - vs.length) = j by omega]
theorem fill_ok {E : Env} (place : Nat → Option (Nat × Nat)) : ∀ (ps : List (Nat × Value)) (qs : List (Nat × Nat × AV)) (cells : Array Value) (cs cs' : List AV), RepL E cs cells →
    ps.length = qs.length → (∀ j (h : j < ps.length) (h' : j < qs.length), place (ps[j]).1 = some ((qs[j]).1, (qs[j]).2.1) ∧ Rep E ((qs[j]).2.2) ((ps[j]).2)) → afill cs qs = some cs' →
    ∃ cells', Instr.fill place cells ps = some cells' ∧ RepL E cs' cells'
  | [], [], cells, cs, cs', hr, _, _, h => by simp [afill] at h; subst h; exact ⟨cells, rfl, hr⟩
  | [], q :: qs, _, _, _, _, hl, _, _ => by simp at hl
  | p :: ps, [], _, _, _, _, hl, _, _ => by simp at hl
  | (i, v) :: ps, (off, sz, x) :: qs, cells, cs, cs', hr, hl, hp, h => by
    simp only [afill] at h
    split at h
    · rename_i hc
      obtain ⟨c1, c2, c3⟩ := hc
      obtain ⟨p1, p2⟩ := hp 0 (by simp) (by simp)
      simp only [List.getElem_cons_zero] at p1 p2
      obtain ⟨r1, r2⟩ := p2.cells c1
      obtain ⟨h1, h2, h3⟩ := hr
      obtain ⟨cells', e1, e2, e3⟩ := fill_part place cells i v ps off sz p1 (by omega) (by omega)
      rw [e1]
      refine fill_ok place ps qs cells' _ cs' ⟨?_, ?_, ?_⟩ (by simpa using hl) (fun j hj hj' => ?_) h
      · rw [e2, h1]; simp only [List.length_append, List.length_take, List.length_drop]; omega
      · intro y hy
        rw [List.append_assoc] at hy
        rcases List.mem_append.mp hy with g | g
        · exact h2 y (List.mem_of_mem_take g)
        · rcases List.mem_append.mp g with g | g
          · exact p2.cells_atom c1 y g
          · exact h2 y (List.mem_of_mem_drop g)
      · intro k hk
        rw [e3 k]
        have hsp := lsplice_get cs off x.cells (by omega) k
        rw [c2] at hsp
        rw [List.getElem?_eq_getElem hk] at hsp
        by_cases hin : off ≤ k ∧ k < off + sz
        · rw [if_pos hin] at hsp ⊢
          have hkk : k - off < x.cells.length := by omega
          rw [List.getElem?_eq_getElem hkk] at hsp
          have hsp := Option.some.inj hsp
          refine ⟨v.cells.getD (k - off) undef, ?_, by rw [hsp]; exact r2 _ hkk⟩
          simp [Array.getD_eq_getD_getElem?]; rw [Array.getElem?_eq_getElem (by omega)]; rfl
        · rw [if_neg hin] at hsp ⊢
          have hkl : k < cs.length := by
            have := hk; simp only [List.length_append, List.length_take, List.length_drop] at this; omega
          rw [List.getElem?_eq_getElem hkl] at hsp
          rw [Option.some.inj hsp]
          exact h3 k hkl
      · have := hp (j + 1) (by simpa using hj) (by simpa using hj')
        simpa using this
    · cases h
/-- A type's zero value, its size. -/
def zeroOf (P : Program) (t : TypeId) : Option (AV × Nat) :=
  match P.info? t with
  | some i => match i.zero with
    | some z => match ofVal z with
      | some x => if x.solid = true ∧ x.cells.length = i.size ∧ z.cells.size = i.size then some (x, i.size) else none
      | none => none
    | none => none
  | none => none
theorem zeroOf_inv {P : Program} {t : TypeId} {x : AV} {m : Nat} (h : zeroOf P t = some (x, m)) :
    ∃ i z, P.info? t = some i ∧ i.zero = some z ∧ ofVal z = some x ∧ x.solid = true ∧ x.cells.length = m ∧ z.cells.size = m ∧ i.size = m := by
  unfold zeroOf at h
  split at h
  · rename_i i hi
    split at h
    · rename_i z hz
      split at h
      · rename_i y hy
        split at h
        · rename_i hc
          simp only [Option.some.injEq, Prod.mk.injEq] at h
          obtain ⟨rfl, rfl⟩ := h
          exact ⟨i, z, hi, hz, hy, hc.1, hc.2.1, hc.2.2, rfl⟩
        · cases h
      · cases h
    · cases h
  · cases h
theorem zeroOf_rep {E : Env} {P : Program} {t : TypeId} {x : AV} {m : Nat} (h : zeroOf P t = some (x, m)) : ∃ i z, P.info? t = some i ∧ i.zero = some z ∧ i.size = m ∧ RepL E x.cells z.cells ∧ Rep E x z := by
  obtain ⟨i, z, h1, h2, h3, h4, h5, h6, h7⟩ := zeroOf_inv h
  have r := (ofVal_ok (E := E) h3).1
  obtain ⟨r1, r2⟩ := r.cells h4
  exact ⟨i, z, h1, h2, h7, ⟨r1, r.cells_atom h4, fun k hk => ⟨_, by simp [Array.getD_eq_getD_getElem?]; rw [Array.getElem?_eq_getElem (by omega)]; rfl, r2 k hk⟩⟩, r⟩
def exAlloc (z : AV) (es : Nat) : Eff := .new (some (.arr es [z], fun i => .ptr i 0 0))
def exBuild (z : AV) (ps : List (Nat × Nat × AV)) : Option AV := (afill z.cells ps).map .agg
/-- A slice literal's elements: each as its part says. -/
def lfill (es : Nat) (xs : List AV) : List (Nat × AV) → Option (List AV)
  | [] => some xs
  | (i, x) :: r => if x.solid = true ∧ x.cells.length = es ∧ i < xs.length then lfill es (xs.set i x) r else none
section
variable {P : Program} {n : Nat} {o : Oper} {a : AF} {S : St} {nid : Nat} {v : AV}

theorem ok_alloc {t : TypeId} {z : AV} {m : Nat} {S' : St} (hd : ∀ d, o.dst = some d → d < n) (hop : o.op = .alloc t) (hz : zeroOf P t = some (z, m)) (h : (exAlloc z m).run S nid = some (v, S')) : OpOk P n o a S nid v S' := by
  simp only [exAlloc, Eff.run_new, Option.map_some, Option.some.injEq, Prod.mk.injEq] at h
  obtain ⟨rfl, rfl⟩ := h
  obtain ⟨i, zv, h1, h2, h3, h4, h5, h6, h7⟩ := zeroOf_inv hz
  refine OpOk.alloc (f := fun i => .ptr i 0 0) hd (by simpa using h5) fun E w act hS hF => ?_
  obtain ⟨_, _, g1, g2, g3, g4, g5⟩ := zeroOf_rep (E := E) hz
  rw [h1] at g1; cases g1
  rw [h2] at g2; cases g2
  refine ⟨_, zv.cells, t, 1, w, rfl, hS, .refl _ _ _, by simp [execOp, hop, Instr.alloc, zeroValue, typeInfo, h1, h2, newVar, newRow]; rfl, ?_, by simp, by omega, ?_, ?_⟩
  · rw [flat_one]; exact g4.2.1
  · intro k hk; simp only [flat_one] at hk ⊢; exact g4.2.2 k hk
  · intro E' he
    have := Rep.ptr (E := E') nid 0 0 _ he
    simpa using this
/-- The operands of parts. -/
theorem parts_ok {E : Env} {act : Act} (hF : RepF E n a act) {l : List (Nat × Operand)} {qs : List (Nat × Opd)} (h : l.mapM (fun p => (ofOperand p.2).map fun x => (p.1, x)) = some qs) :
    l.length = qs.length ∧ ∀ j (h1 : j < l.length) (h2 : j < qs.length), (l[j]).1 = (qs[j]).1 ∧ Rep E ((qs[j]).2.ev a) (act.eval (l[j]).2) := by
  induction l generalizing qs with
  | nil => simp at h; subst h; simp
  | cons p l ih =>
    simp only [List.mapM_cons, Option.bind_eq_bind, Option.bind_eq_some_iff, Option.pure_def, Option.some.injEq, Option.map_eq_some_iff] at h
    obtain ⟨q, ⟨x, hx, rfl⟩, qs', hq, rfl⟩ := h
    obtain ⟨h1, h2⟩ := ih hq
    refine ⟨by simp [h1], fun j hj hj' => ?_⟩
    cases j with
    | zero => exact ⟨rfl, ofOperand_ok hF hx⟩
    | succ j => simpa using h2 j (by simpa using hj) (by simpa using hj')
/-- Places of a struct's fields, or of an array's elements. -/
def placeOf (P : Program) (t : TypeId) (i : Nat) : Option (Nat × Nat) :=
  match P.underlying t with
  | some (.struct fs) => match fs[i]? with
    | some f => (P.info? f.type).map fun j => (f.offset, j.size)
    | none => none
  | some (.array _ e) => (P.info? e).map fun j => (i * j.size, j.size)
  | _ => none
theorem mapM_places {P : Program} : ∀ (fs : List Field) (w : World), (∀ f ∈ fs, (P.info? f.type).isSome = true) →
    (fs.mapM fun f => do pure (f.offset, ← sizeOf f.type) : Sem (List (Nat × Nat))).run P w = .ok (fs.map fun f => (f.offset, ((P.info? f.type).map (·.size)).getD 0)) w
  | [], w, _ => rfl
  | f :: fs, w, h => by
    have h1 := h f (by simp)
    obtain ⟨i, hi⟩ := Option.isSome_iff_exists.mp h1
    have ih := mapM_places fs w (fun g hg => h g (by simp [hg]))
    simp only [List.mapM_cons, Sem.run_bind, run_sizeOf hi, Result.andThen_ok, List.map_cons, hi, Option.map_some, Option.getD_some]
    rw [show (Sem.run P (pure (f.offset, i.size)) w : Result (Nat × Nat)) = .ok (f.offset, i.size) w from rfl]
    simp only [Result.andThen_ok, ih]
    rfl
/-- Are all fields' types known? -/
def fieldsKnown (P : Program) (t : TypeId) : Bool :=
  match P.underlying t with
  | some (.struct fs) => fs.all fun f => (P.info? f.type).isSome
  | some (.array _ e) => (P.info? e).isSome
  | _ => false
theorem run_build {E : Env} {w : World} {t : TypeId} {z : AV} {m : Nat} (hz : zeroOf P t = some (z, m)) (hk : fieldsKnown P t = true) {ps : Array (Nat × Value)} {qs : List (Nat × Nat × AV)} {r : AV}
    (hl : ps.toList.length = qs.length) (hp : ∀ j (h : j < ps.toList.length) (h' : j < qs.length), placeOf P t (ps.toList[j]).1 = some ((qs[j]).1, (qs[j]).2.1) ∧ Rep E ((qs[j]).2.2) ((ps.toList[j]).2))
    (h : exBuild z qs = some r) : ∃ val, (Instr.build t ps).run P w = .ok val w ∧ Rep E r val := by
  obtain ⟨i, zv, h1, h2, h3, h4, h5⟩ := zeroOf_rep (E := E) hz
  simp only [exBuild, Option.map_eq_some_iff] at h
  obtain ⟨cs', hf, rfl⟩ := h
  unfold fieldsKnown at hk
  split at hk
  · rename_i fs hu
    have hall : ∀ f ∈ fs.toList, (P.info? f.type).isSome = true := by
      intro f hf; exact (Array.all_eq_true'.mp hk) f (by simpa using hf)
    have hm := mapM_places fs.toList w hall
    let pl := fs.map fun f => (f.offset, ((P.info? f.type).map (·.size)).getD 0)
    have hpl : ∀ j, placeOf P t j = (pl[j]?) := by
      intro j
      simp only [placeOf, hu, pl, Array.getElem?_map]
      cases hj : fs[j]? with
      | none => rfl
      | some f =>
        obtain ⟨q, hq⟩ := Option.isSome_iff_exists.mp (hall f (by simpa using Array.mem_of_getElem? hj))
        simp [hq]
    obtain ⟨cells', e1, e2⟩ := fill_ok (fun j => pl[j]?) ps.toList qs zv.cells z.cells cs' h4 hl (fun j hj hj' => by rw [← hpl]; exact hp j hj hj') hf
    refine ⟨.agg cells', ?_, .agg cs' cells' e2.1 e2.2.1 (fun j hj => ?_)⟩
    · have hma : (fs.mapM fun f => do pure (f.offset, ← sizeOf f.type) : Sem (Array (Nat × Nat))).run P w = .ok pl w := by
        rw [Array.mapM_eq_mapM_toList, map_eq_pure_bind]
        simp only [Sem.run_bind, hm, Result.andThen_ok]
        show Result.ok _ w = _
        congr 1
        apply Array.ext'; simp [pl]
      simp only [bind_pure_comp] at hma
      simp [Instr.build, zeroValue, typeInfo, run_underlying hu, h1, h2, hma, e1]
    · obtain ⟨u, a1, a2⟩ := e2.2.2 j hj
      simp [Array.getD_eq_getD_getElem?, a1]; exact a2
  · rename_i mm e hu
    obtain ⟨ie, hie⟩ := Option.isSome_iff_exists.mp hk
    have hpl : ∀ j, placeOf P t j = some (j * ie.size, ie.size) := by intro j; simp [placeOf, hu, hie]
    obtain ⟨cells', e1, e2⟩ := fill_ok (fun j => some (j * ie.size, ie.size)) ps.toList qs zv.cells z.cells cs' h4 hl (fun j hj hj' => by rw [← hpl]; exact hp j hj hj') hf
    refine ⟨.agg cells', ?_, .agg cs' cells' e2.1 e2.2.1 (fun j hj => ?_)⟩
    · simp [Instr.build, zeroValue, typeInfo, run_underlying hu, h1, h2, run_sizeOf hie, e1]
    · obtain ⟨u, a1, a2⟩ := e2.2.2 j hj
      simp [Array.getD_eq_getD_getElem?, a1]; exact a2
  · cases hk
end
end Go.Rf

