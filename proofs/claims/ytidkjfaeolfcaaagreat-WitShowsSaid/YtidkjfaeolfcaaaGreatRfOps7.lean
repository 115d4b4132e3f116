import Derived.Test.YtidkjfaeolfcaaaGreatRfApp
set_option linter.unusedVariables false
set_option linter.unusedSimpArgs false
namespace Go.Rf
open Go.RowKit

/-- What a parts' filling makes of cells. -/
def afill (cs : List AV) : List (Nat × Nat × AV) → Option (List AV)
  | [] => some cs
  | (off, sz, x) :: r => if x.solid = true ∧ x.cells.length = sz ∧ off + sz ≤ cs.length then afill (cs.take off ++ x.cells ++ cs.drop (off + sz)) r else none
/-- Cells that stand for others, one by one. -/
def RepL (E : Env) (ys : List AV) (cs : Array Value) : Prop := cs.size = ys.length ∧ (∀ y ∈ ys, y.atom = true) ∧ ∀ k (h : k < ys.length), ∃ v, cs[k]? = some v ∧ Rep E (ys[k]) v
theorem lsplice_get (cs : List AV) (o : Nat) (vs : List AV) (h : o + vs.length ≤ cs.length) (j : Nat) :
    (cs.take o ++ vs ++ cs.drop (o + vs.length))[j]? = if o ≤ j ∧ j < o + vs.length then vs[j - o]? else cs[j]? := by
  have hl : (cs.take o).length = o := by simp; omega
  rcases Nat.lt_or_ge j o with h1 | h1
  · rw [List.append_assoc, List.getElem?_append_left (by omega), List.getElem?_take, if_pos h1, if_neg (by omega)]
  · rw [List.append_assoc, List.getElem?_append_right (by omega), hl]
    rcases Nat.lt_or_ge j (o + vs.length) with h2 | h2
    · rw [List.getElem?_append_left (by omega), if_pos ⟨h1, h2⟩]
    · rw [List.getElem?_append_right (by omega), List.getElem?_drop, if_neg (by omega)]
      rw [show o + vs.length + (j - o - vs.length) = j by omega]
theorem fill_ok {E : Env} (place : Nat → Option (Nat × Nat)) : ∀ (ps : List (Nat × Value)) (qs : List (Nat × Nat × AV)) (cells : Array Value) (cs cs' : List AV), RepL E cs cells →
    ps.length = qs.length → (∀ j (h : j < ps.length) (h' : j < qs.length), place (ps[j]).1 = some ((qs[j]).1, (qs[j]).2.1) ∧ Rep E ((qs[j]).2.2) ((ps[j]).2)) → afill cs qs = some cs' →
    ∃ cells', Instr.fill place cells ps = some cells' ∧ RepL E cs' cells'
  | [], [], cells, cs, cs', hr, _, _, h => by simp [afill] at h; subst h; exact ⟨cells, rfl, hr⟩
  | [], q :: qs, _, _, _, _, hl, _, _ => by simp at hl
  | p :: ps, [], _, _, _, _, hl, _, _ => by simp at hl
  | (i, v) :: ps, (off, sz, x) :: qs, cells, cs, cs', hr, hl, hp, h => by
    simp only [afill] at h
    split at h
    · rename_i hc
      obtain ⟨c1, c2, c3⟩ := hc
      obtain ⟨p1, p2⟩ := hp 0 (by simp) (by simp)
      simp only [List.getElem_cons_zero] at p1 p2
      obtain ⟨r1, r2⟩ := p2.cells c1
      obtain ⟨h1, h2, h3⟩ := hr
      obtain ⟨cells', e1, e2, e3⟩ := fill_part place cells i v ps off sz p1 (by omega) (by omega)
      rw [e1]
      refine fill_ok place ps qs cells' _ cs' ⟨?_, ?_, ?_⟩ (by simpa using hl) (fun j hj hj' => ?_) h
      · rw [e2, h1]; simp only [List.length_append, List.length_take, List.length_drop]; omega
      · intro y hy
        rw [List.append_assoc] at hy
        rcases List.mem_append.mp hy with g | g
        · exact h2 y (List.mem_of_mem_take g)
        · rcases List.mem_append.mp g with g | g
          · exact p2.cells_atom c1 y g
          · exact h2 y (List.mem_of_mem_drop g)
      · intro k hk
        rw [e3 k]
        have hsp := lsplice_get cs off x.cells (by omega) k
        rw [c2] at hsp
        rw [List.getElem?_eq_getElem hk] at hsp
        by_cases hin : off ≤ k ∧ k < off + sz
        · rw [if_pos hin] at hsp ⊢
          have hkk : k - off < x.cells.length := by omega
          rw [List.getElem?_eq_getElem hkk] at hsp
          have hsp := Option.some.inj hsp
          refine ⟨v.cells.getD (k - off) undef, ?_, by rw [hsp]; exact r2 _ hkk⟩
          simp [Array.getD_eq_getD_getElem?]; rw [Array.getElem?_eq_getElem (by omega)]; rfl
        · rw [if_neg hin] at hsp ⊢
          have hkl : k < cs.length := by
            have := hk; simp only [List.length_append, List.length_take, List.length_drop] at this; omega
          rw [List.getElem?_eq_getElem hkl] at hsp
          rw [Option.some.inj hsp]
          exact h3 k hkl
      · have := hp (j + 1) (by simpa using hj) (by simpa using hj')
        simpa using this
    · cases h
/-- A type's zero value, its size. -/
def zeroOf (P : Program) (t : TypeId) : Option (AV × Nat) :=
  match P.info? t with
  | some i => match i.zero with
    | some z => match ofVal z with
      | some x => if x.solid = true ∧ x.cells.length = i.size ∧ z.cells.size = i.size then some (x, i.size) else none
      | none => none
    | none => none
  | none => none
theorem zeroOf_inv {P : Program} {t : TypeId} {x : AV} {m : Nat} (h : zeroOf P t = some (x, m)) :
    ∃ i z, P.info? t = some i ∧ i.zero = some z ∧ ofVal z = some x ∧ x.solid = true ∧ x.cells.length = m ∧ z.cells.size = m ∧ i.size = m := by
  unfold zeroOf at h
  split at h
  · rename_i i hi
    split at h
    · rename_i z hz
      split at h
      · rename_i y hy
        split at h
        · rename_i hc
          simp only [Option.some.injEq, Prod.mk.injEq] at h
          obtain ⟨rfl, rfl⟩ := h
          exact ⟨i, z, hi, hz, hy, hc.1, hc.2.1, hc.2.2, rfl⟩
        · cases h
      · cases h
    · cases h
  · cases h
theorem zeroOf_rep {E : Env} {P : Program} {t : TypeId} {x : AV} {m : Nat} (h : zeroOf P t = some (x, m)) : ∃ i z, P.info? t = some i ∧ i.zero = some z ∧ i.size = m ∧ RepL E x.cells z.cells ∧ Rep E x z := by
  obtain ⟨i, z, h1, h2, h3, h4, h5, h6, h7⟩ := zeroOf_inv h
  have r := (ofVal_ok (E := E) h3).1
  obtain ⟨r1, r2⟩ := r.cells h4
  exact ⟨i, z, h1, h2, h7, ⟨r1, r.cells_atom h4, fun k hk => ⟨_, by simp [Array.getD_eq_getD_getElem?]; rw [Array.getElem?_eq_getElem (by omega)]; rfl, r2 k hk⟩⟩, r⟩
def exAlloc (z : AV) (es : Nat) : Eff := .new (some (.arr es [z], fun i => .ptr i 0 0))
def exBuild (z : AV) (ps : List (Nat × Nat × AV)) : Option AV := (afill z.cells ps).map .agg
/-- A slice literal's elements: each as its part says. -/
def lfill (es : Nat) (xs : List AV) : List (Nat × AV) → Option (List AV)
  | [] => some xs
  | (i, x) :: r => if x.solid = true ∧ x.cells.length = es ∧ i < xs.length then lfill es (xs.set i x) r else none
section
variable {P : Program} {n : Nat} {o : Oper} {a : AF} {S : St} {nid : Nat} {v : AV}

theorem ok_alloc {t : TypeId} {z : AV} {m : Nat} {S' : St} (hd : ∀ d, o.dst = some d → d < n) (hop : o.op = .alloc t) (hz : zeroOf P t = some (z, m)) (h : (exAlloc z m).run S nid = some (v, S')) : OpOk P n o a S nid v S' := by
  simp only [exAlloc, Eff.run_new, Option.map_some, Option.some.injEq, Prod.mk.injEq] at h
  obtain ⟨rfl, rfl⟩ := h
  obtain ⟨i, zv, h1, h2, h3, h4, h5, h6, h7⟩ := zeroOf_inv hz
  refine OpOk.alloc (f := fun i => .ptr i 0 0) hd (by rw [hop]; rfl) (by simpa using h5) fun E w act hS hF => ?_
  obtain ⟨_, _, g1, g2, g3, g4, g5⟩ := zeroOf_rep (E := E) hz
  rw [h1] at g1; cases g1
  rw [h2] at g2; cases g2
  refine ⟨_, zv.cells, t, 1, w, rfl, hS, .refl _ _ _, by simp [execOp, hop, Instr.alloc, zeroValue, typeInfo, h1, h2, newVar, newRow]; rfl, ?_, by simp, by omega, ?_, ?_⟩
  · rw [flat_one]; exact g4.2.1
  · intro k hk; simp only [flat_one] at hk ⊢; exact g4.2.2 k hk
  · intro E' he
    have := Rep.ptr (E := E') nid 0 0 _ he
    simpa using this
/-- The operands of parts. -/
theorem parts_ok {E : Env} {act : Act} (hF : RepF E n a act) {l : List (Nat × Operand)} {qs : List (Nat × Opd)} (h : l.mapM (fun p => (ofOperand p.2).map fun x => (p.1, x)) = some qs) :
    l.length = qs.length ∧ ∀ j (h1 : j < l.length) (h2 : j < qs.length), (l[j]).1 = (qs[j]).1 ∧ Rep E ((qs[j]).2.ev a) (act.eval (l[j]).2) := by
  induction l generalizing qs with
  | nil => simp at h; subst h; simp
  | cons p l ih =>
    simp only [List.mapM_cons, Option.bind_eq_bind, Option.bind_eq_some_iff, Option.pure_def, Option.some.injEq, Option.map_eq_some_iff] at h
    obtain ⟨q, ⟨x, hx, rfl⟩, qs', hq, rfl⟩ := h
    obtain ⟨h1, h2⟩ := ih hq
    refine ⟨by simp [h1], fun j hj hj' => ?_⟩
    cases j with
    | zero => exact ⟨rfl, ofOperand_ok hF hx⟩
    | succ j => simpa using h2 j (by simpa using hj) (by simpa using hj')
/-- Places of a struct's fields, or of an array's elements. -/
def placeOf (P : Program) (t : TypeId) (i : Nat) : Option (Nat × Nat) :=
  match P.underlying t with
  | some (.struct fs) => match fs[i]? with
    | some f => (P.info? f.type).map fun j => (f.offset, j.size)
    | none => none
  | some (.array _ e) => (P.info? e).map fun j => (i * j.size, j.size)
  | _ => none
theorem mapM_places {P : Program} : ∀ (fs : List Field) (w : World), (∀ f ∈ fs, (P.info? f.type).isSome = true) →
    (fs.mapM fun f => do pure (f.offset, ← sizeOf f.type) : Sem (List (Nat × Nat))).run P w = .ok (fs.map fun f => (f.offset, ((P.info? f.type).map (·.size)).getD 0)) w
  | [], w, _ => rfl
  | f :: fs, w, h => by
    have h1 := h f (by simp)
    obtain ⟨i, hi⟩ := Option.isSome_iff_exists.mp h1
    have ih := mapM_places fs w (fun g hg => h g (by simp [hg]))
    simp only [List.mapM_cons, Sem.run_bind, run_sizeOf hi, Result.andThen_ok, List.map_cons, hi, Option.map_some, Option.getD_some]
    rw [show (Sem.run P (pure (f.offset, i.size)) w : Result (Nat × Nat)) = .ok (f.offset, i.size) w from rfl]
    simp only [Result.andThen_ok, ih]
    rfl
/-- Are all fields' types known? -/
def fieldsKnown (P : Program) (t : TypeId) : Bool :=
  match P.underlying t with
  | some (.struct fs) => fs.all fun f => (P.info? f.type).isSome
  | some (.array _ e) => (P.info? e).isSome
  | _ => false
theorem run_build {E : Env} {w : World} {t : TypeId} {z : AV} {m : Nat} (hz : zeroOf P t = some (z, m)) (hk : fieldsKnown P t = true) {ps : Array (Nat × Value)} {qs : List (Nat × Nat × AV)} {r : AV}
    (hl : ps.toList.length = qs.length) (hp : ∀ j (h : j < ps.toList.length) (h' : j < qs.length), placeOf P t (ps.toList[j]).1 = some ((qs[j]).1, (qs[j]).2.1) ∧ Rep E ((qs[j]).2.2) ((ps.toList[j]).2))
    (h : exBuild z qs = some r) : ∃ val, (Instr.build t ps).run P w = .ok val w ∧ Rep E r val := by
  obtain ⟨i, zv, h1, h2, h3, h4, h5⟩ := zeroOf_rep (E := E) hz
  simp only [exBuild, Option.map_eq_some_iff] at h
  obtain ⟨cs', hf, rfl⟩ := h
  unfold fieldsKnown at hk
  split at hk
  · rename_i fs hu
    have hall : ∀ f ∈ fs.toList, (P.info? f.type).isSome = true := by
      intro f hf; exact (Array.all_eq_true'.mp hk) f (by simpa using hf)
    have hm := mapM_places fs.toList w hall
    let pl := fs.map fun f => (f.offset, ((P.info? f.type).map (·.size)).getD 0)
    have hpl : ∀ j, placeOf P t j = (pl[j]?) := by
      intro j
      simp only [placeOf, hu, pl, Array.getElem?_map]
      cases hj : fs[j]? with
      | none => rfl
      | some f =>
        obtain ⟨q, hq⟩ := Option.isSome_iff_exists.mp (hall f (by simpa using Array.mem_of_getElem? hj))
        simp [hq]
    obtain ⟨cells', e1, e2⟩ := fill_ok (fun j => pl[j]?) ps.toList qs zv.cells z.cells cs' h4 hl (fun j hj hj' => by rw [← hpl]; exact hp j hj hj') hf
    refine ⟨.agg cells', ?_, .agg cs' cells' e2.1 e2.2.1 (fun j hj => ?_)⟩
    · have hma : (fs.mapM fun f => do pure (f.offset, ← sizeOf f.type) : Sem (Array (Nat × Nat))).run P w = .ok pl w := by
        rw [Array.mapM_eq_mapM_toList, map_eq_pure_bind]
        simp only [Sem.run_bind, hm, Result.andThen_ok]
        show Result.ok _ w = _
        congr 1
        apply Array.ext'; simp [pl]
      simp only [bind_pure_comp] at hma
      simp [Instr.build, zeroValue, typeInfo, run_underlying hu, h1, h2, hma, e1]
    · obtain ⟨u, a1, a2⟩ := e2.2.2 j hj
      simp [Array.getD_eq_getD_getElem?, a1]; exact a2
  · rename_i mm e hu
    obtain ⟨ie, hie⟩ := Option.isSome_iff_exists.mp hk
    have hpl : ∀ j, placeOf P t j = some (j * ie.size, ie.size) := by intro j; simp [placeOf, hu, hie]
    obtain ⟨cells', e1, e2⟩ := fill_ok (fun j => some (j * ie.size, ie.size)) ps.toList qs zv.cells z.cells cs' h4 hl (fun j hj hj' => by rw [← hpl]; exact hp j hj hj') hf
    refine ⟨.agg cells', ?_, .agg cs' cells' e2.1 e2.2.1 (fun j hj => ?_)⟩
    · simp [Instr.build, zeroValue, typeInfo, run_underlying hu, h1, h2, run_sizeOf hie, e1]
    · obtain ⟨u, a1, a2⟩ := e2.2.2 j hj
      simp [Array.getD_eq_getD_getElem?, a1]; exact a2
  · cases hk
end
end Go.Rf


set_option linter.unusedVariables false
set_option linter.unusedSimpArgs false
namespace Go.Rf
open Go.RowKit

theorem flat_set_whole {xs : List AV} {es : Nat} (h : ∀ x ∈ xs, x.cells.length = es) {i : Nat} (hi : i < xs.length) (x : AV) :
    flat (xs.set i x) = (flat xs).take (i * es) ++ x.cells ++ (flat xs).drop (i * es + es) := by
  rw [List.set_eq_take_append_cons_drop, if_pos hi]
  have : i * es + es = (i + 1) * es := by rw [Nat.add_mul, Nat.one_mul]
  rw [this, ← flat_take h, ← flat_drop h, flat_append]
  simp [flat]
theorem lfill_afill {es : Nat} : ∀ (ps : List (Nat × AV)) (xs xs' : List AV), (∀ x ∈ xs, x.cells.length = es) → lfill es xs ps = some xs' →
    afill (flat xs) (ps.map fun p => (p.1 * es, es, p.2)) = some (flat xs') ∧ (∀ x ∈ xs', x.cells.length = es) ∧ xs'.length = xs.length
  | [], xs, xs', hx, h => by simp [lfill] at h; subst h; exact ⟨by simp [afill], hx, rfl⟩
  | (i, x) :: ps, xs, xs', hx, h => by
    simp only [lfill] at h
    split at h
    · rename_i hc
      obtain ⟨c1, c2, c3⟩ := hc
      have hx' : ∀ y ∈ xs.set i x, y.cells.length = es := mem_set_cells hx c2
      obtain ⟨a, b, c⟩ := lfill_afill ps _ xs' hx' h
      refine ⟨?_, b, by simpa using c⟩
      simp only [List.map_cons, afill]
      have hl := length_flat hx
      have h9 : (i + 1) * es ≤ xs.length * es := Nat.mul_le_mul_right _ (by omega)
      rw [Nat.add_mul, Nat.one_mul] at h9
      rw [if_pos ⟨c1, c2, by omega⟩, ← flat_set_whole hx c3]
      exact a
    · cases h
theorem repL_made {E : Env} {z : AV} {zc : Array Value} {es : Nat} (hz : RepL E z.cells zc) (he : z.cells.length = es) (m : Nat) (c : Nat) (hmc : m ≤ c) :
    ∀ k (h : k < (flat (List.replicate m z)).length), ∃ v, ((Array.range (c * es)).map (zc[· % zc.size]!))[k]? = some v ∧ Rep E ((flat (List.replicate m z))[k]) v := by
  intro k hk
  have hx : ∀ x ∈ List.replicate m z, x.cells.length = es := by intro x hx; rw [(List.mem_replicate.mp hx).2]; exact he
  obtain ⟨hi, hj, e⟩ := flat_get hx k hk
  have hl := length_flat hx
  simp only [List.length_replicate] at hl hi
  have hkc : k < c * es := by
    have : m * es ≤ c * es := Nat.mul_le_mul_right _ hmc
    omega
  have hes : 0 < es := by
    rcases Nat.eq_zero_or_pos es with e | e
    · subst e; omega
    · exact e
  have hsz : zc.size = es := by rw [hz.1, he]
  have hmod : k % es < z.cells.length := by rw [he]; exact Nat.mod_lt _ hes
  obtain ⟨v, a, b⟩ := hz.2.2 (k % es) hmod
  refine ⟨v, ?_, ?_⟩
  · rw [Array.getElem?_map, Array.getElem?_range, if_pos hkc]
    simp only [Option.map_some, hsz]
    have h8 : k % es < zc.size := by rw [hsz]; exact Nat.mod_lt _ hes
    rw [getElem!_pos zc _ h8, ← a, Array.getElem?_eq_getElem h8]
  · rw [e]
    simpa using b
def exMks (es by_ : Nat) (z l c : AV) : Eff :=
  match l, c with
  | .v (.int _ m), .v (.int _ k) => .new (if 0 ≤ m ∧ m ≤ k ∧ by_ * k ≤ 281474976710656 ∧ k ≤ 9223372036854775807 ∧ z.cells.length = es then some (.arr es (List.replicate m.toNat z), fun i => .own i 0 m.toNat) else none)
  | _, _ => .val none
def exBslice (es m : Nat) (z : AV) (ps : List (Nat × AV)) : Option AV :=
  if m * es ≤ 16777216 then (lfill es (List.replicate m z) ps).map (.sl true) else none
/-- A slice type's element: zero value, size, bytes. -/
def elemOf3 (P : Program) (t : TypeId) : Option (AV × Nat × Nat) :=
  match P.underlying t with
  | some (.slice e) => match zeroOf P e with
    | some (z, m) => (P.info? e).map fun i => (z, m, i.bytes)
    | none => none
  | _ => none
theorem elemOf3_inv {P : Program} {t : TypeId} {z : AV} {m b : Nat} (h : elemOf3 P t = some (z, m, b)) : ∃ e i, P.underlying t = some (.slice e) ∧ zeroOf P e = some (z, m) ∧ P.info? e = some i ∧ i.bytes = b := by
  unfold elemOf3 at h
  split at h
  · rename_i e hu
    split at h
    · rename_i z' m' hz
      simp only [Option.map_eq_some_iff, Prod.mk.injEq] at h
      obtain ⟨i, hi, rfl, rfl, rfl⟩ := h
      exact ⟨e, i, hu, hz, hi, rfl⟩
    · cases h
  · cases h
section
variable {P : Program} {n : Nat} {o : Oper} {a : AF} {S : St} {nid : Nat} {v : AV}

theorem ok_mks {t : TypeId} {l c : Operand} {L C : Opd} {z : AV} {es by_ : Nat} {S' : St} (hd : ∀ d, o.dst = some d → d < n) (hop : o.op = .makeSlice t l c) (hl : ofOperand l = some L) (hc : ofOperand c = some C)
    (ht : elemOf3 P t = some (z, es, by_)) (h : (exMks es by_ z (L.ev a) (C.ev a)).run S nid = some (v, S')) : OpOk P n o a S nid v S' := by
  generalize hle : L.ev a = al at h
  generalize hce : C.ev a = ac at h
  unfold exMks at h
  split at h
  · rename_i k1 m k2 k
    simp only [Eff.run_new, Option.map_eq_some_iff, Prod.mk.injEq] at h
    obtain ⟨p, h1, rfl, rfl⟩ := h
    split at h1
    · rename_i hcond
      obtain ⟨c1, c2, c3, c4, c5⟩ := hcond
      cases h1
      obtain ⟨e, i, hu, hz, hi, hb⟩ := elemOf3_inv ht
      have hrepl : ∀ x ∈ List.replicate m.toNat z, x.cells.length = es := by intro x hx; rw [(List.mem_replicate.mp hx).2]; exact c5
      refine OpOk.alloc (f := fun i => .own i 0 m.toNat) hd (by rw [hop]; rfl) hrepl fun E w act hS hF => ?_
      have rl := ofOperand_ok hF hl
      have rc := ofOperand_ok hF hc
      rw [hle] at rl
      rw [hce] at rc
      have el := rl.v_inv
      have ec := rc.v_inv
      obtain ⟨i', zv, g1, g2, g3, g4, g5⟩ := zeroOf_rep (E := E) hz
      rw [hi] at g1; cases g1
      have hrun := run_make (P := P) w t e i zv hu hi g2 k1 k2 m k c1 c2 (by rw [hb]; exact c3) c4
      refine ⟨.slice (some ⟨w.heap.size, 0, none⟩) m.toNat k.toNat, madeCells zv.cells (k.toNat * i.size), e, k.toNat, w, rfl, hS, .refl _ _ _, by simp [execOp, hop, el, ec, hrun], ?_, by simp; omega, by simp [madeCells, g3], ?_, ?_⟩
      · intro y hy
        obtain ⟨x, hx, hyx⟩ := List.mem_flatMap.mp hy
        rw [(List.mem_replicate.mp hx).2] at hyx
        exact g4.2.1 y hyx
      · intro j hj
        have := repL_made g4 c5 m.toNat k.toNat (by omega) j hj
        rw [madeCells, g3]; exact this
      · intro E' he
        exact .own nid 0 _ (some ⟨w.heap.size, 0, none⟩) k.toNat _ he (by omega) (fun _ => ⟨by simp, by simp⟩)
    · cases h1
  · simp at h
theorem ok_bslice {t : TypeId} {m : Nat} {ps : Array (Nat × Operand)} {qs : List (Nat × Opd)} {z : AV} {es by_ : Nat} (hd : ∀ d, o.dst = some d → d < n) (hop : o.op = .buildSlice t m ps)
    (hq : ps.toList.mapM (fun p => (ofOperand p.2).map fun x => (p.1, x)) = some qs) (ht : elemOf3 P t = some (z, es, by_)) (h : exBslice es m z (qs.map fun q => (q.1, q.2.ev a)) = some v) : OpOk P n o a S nid v S := by
  simp only [exBslice] at h
  split at h
  · rename_i hm
    simp only [Option.map_eq_some_iff] at h
    obtain ⟨xs, hf, rfl⟩ := h
    obtain ⟨e, i, hu, hz, hi, hb⟩ := elemOf3_inv ht
    refine .of_run hd fun E w act hS hF hn hlt => ?_
    obtain ⟨i', zv, g1, g2, g3, g4, g5⟩ := zeroOf_rep (E := E) hz
    obtain ⟨_, _, q1, q2, q3, q4, q5, q6, q7⟩ := zeroOf_inv hz
    rw [hi] at g1; cases g1
    obtain ⟨p1, p2⟩ := parts_ok hF hq
    have hrepl : ∀ x ∈ List.replicate m z, x.cells.length = es := by intro x hx; rw [(List.mem_replicate.mp hx).2]; exact q5
    obtain ⟨f1, f2, f3⟩ := lfill_afill _ _ _ hrepl hf
    have hl0 := length_flat hrepl
    simp only [List.length_replicate] at hl0
    have hstart : RepL E (flat (List.replicate m z)) ((Array.range (m * es)).map (zv.cells[· % zv.cells.size]!)) := by
      refine ⟨by simp [hl0], ?_, repL_made g4 q5 m m (Nat.le_refl _)⟩
      intro y hy
      obtain ⟨x, hx, hyx⟩ := List.mem_flatMap.mp hy
      rw [(List.mem_replicate.mp hx).2] at hyx
      exact g4.2.1 y hyx
    let ps' := ps.map fun p => (p.1, act.eval p.2)
    obtain ⟨cells', e1, e2⟩ := fill_ok (fun j => some (j * es, es)) ps'.toList ((qs.map fun q => (q.1, q.2.ev a)).map fun p => (p.1 * es, es, p.2)) _ _ _ hstart (by simp [ps']; simpa using p1)
      (fun j hj hj' => by
        simp only [ps', Array.toList_map, List.length_map] at hj hj'
        obtain ⟨a1, a2⟩ := p2 j hj (by omega)
        simp only [ps', Array.toList_map, List.getElem_map]
        exact ⟨by rw [a1], a2⟩) f1
    have hnone : E.H w.heap.size = none := hS.H_none (Nat.le_refl _)
    have hrun : (execOp act.eval o).run P w = .ok (.value (.slice (some ⟨w.heap.size, 0, none⟩) m m)) (w.alloc (.cells cells' e)) := by
      simp only [execOp, hop]
      by_cases h0 : m * i.size = 0
      · have h00 : m * es = 0 := by rw [← g3]; exact h0
        have e1' : Instr.fill (fun j => some (j * i.size, i.size)) #[] ps'.toList = some cells' := by
          rw [g3, ← e1]; congr 1
          rw [h00]; simp [Array.range_zero']
        simp [Instr.buildSlice, run_underlying hu, run_sizeOf hi, h0, newRow, Array.range_zero']
        have e1'' : Instr.fill (fun j => some (j * i.size, i.size)) #[] (List.map (fun x => (x.1, act.eval x.2)) ps.toList) = some cells' := by simpa [ps'] using e1'
        rw [e1'']; simp
      · have hle : ¬ (m * i.size > 16777216) := by rw [g3]; omega
        have e1'' : Instr.fill (fun j => some (j * i.size, i.size)) ((Array.range (m * i.size)).map (zv.cells[· % zv.cells.size]!)) (List.map (fun x => (x.1, act.eval x.2)) ps.toList) = some cells' := by
          rw [g3]; simpa [ps'] using e1
        simp [Instr.buildSlice, run_underlying hu, run_sizeOf hi, h0, newRow, zeroValue, typeInfo, hi, g2]
        rw [if_neg (by omega)]
        simp [e1'']
    have hS1 : Sim (E.frz w.heap.size cells') S (w.alloc (.cells cells' e)) := by
      have hj := hS.junk (.cells cells' e)
      have hle := Env.le_frz (cs := cells') hnone
      refine ⟨fun b cs hb => ?_, fun id k hk => ?_, hj.dis, hj.fresh⟩
      · simp only [Env.frz, updF] at hb
        split at hb
        · cases hb; subst_vars; exact ⟨e, (0, 0), heap_alloc_new w _⟩
        · exact hj.hH b cs hb
      · obtain ⟨l, a1, a2, a3⟩ := hj.live id k hk
        obtain ⟨l2, b1, b2, b3⟩ := hS.live id k hk
        rw [a1] at b1; cases b1
        refine ⟨l, a1, ?_, a3.mono hle rfl⟩
        simp only [Env.frz, updF]
        rw [if_neg (by have := b3.lt; omega)]; exact a2
    refine ⟨_, _, E.frz w.heap.size cells', hrun, hS1, ?_, ?_, fun hpu => by simp [pureOp, hop] at hpu, fun _ _ e => e⟩
    · have := Evo.junk E S w (.cells cells' e)
      exact ⟨this.os, this.tape, this.output, this.size, this.keep, fun id l k hk hl => this.grow id l k hk hl, Env.le_frz hnone, fun b cs e => by
        simp only [Env.frz, updF] at e
        split at e
        · subst_vars; exact .inr (.inl (Nat.le_refl _))
        · exact .inl e⟩
    · have hxl : xs.length = m := by rw [f3]; simp
      by_cases hx0 : xs = []
      · subst hx0
        simp at hxl
        subst hxl
        exact .sl0 true _ 0 (fun _ => rfl)
      · have hlen : 0 < xs.length := List.length_pos_iff.mpr hx0
        have e3 := e2.2.2
        rw [← hxl]
        refine .sl true xs w.heap.size 0 _ cells' es (fun k => cells'.getD k undef) hlen (by simp [Env.frz]) f2 (Nat.le_refl _) (fun _ => rfl) e2.2.1 (fun k hk => ?_) (fun k hk => ?_)
        · obtain ⟨u, a1, _⟩ := e3 k hk
          simp [Array.getD_eq_getD_getElem?, a1]
        · obtain ⟨u, a1, a2⟩ := e3 k hk
          simp [Array.getD_eq_getD_getElem?, a1]
          exact a2.mono (Env.le_frz hnone)
  · cases h
end
end Go.Rf


set_option linter.unusedVariables false
set_option linter.unusedSimpArgs false
namespace Go.Rf
open Go.RowKit

def bnd (d : Nat) : Option AV → Option Nat
  | none => some d
  | some (.v (.int _ m)) => if 0 ≤ m then some m.toNat else none
  | _ => none
def exSlc (es : Nat) (x : AV) (lo hi : Option AV) : Eff :=
  match x with
  | .sl t xs => .val ((bnd 0 lo).bind fun l => (bnd xs.length hi).bind fun h =>
      if l ≤ h ∧ h ≤ xs.length ∧ ∀ y ∈ xs, y.cells.length = es then some (.sl (t && (hi.isNone || h == xs.length)) ((xs.take h).drop l)) else none)
  | .own id off len => .rd id fun
    | .arr es' xs => (bnd 0 lo).bind fun l => (bnd len hi).bind fun h => if es' = es ∧ l ≤ h ∧ h ≤ len then some (.own id (off + l) (h - l)) else none
    | _ => none
  | _ => .val none
def exSlcS (x : AV) (lo hi : Option AV) : Option AV :=
  match x with
  | .v (.string s) => (bnd 0 lo).bind fun l => (bnd s.size hi).bind fun h => if l ≤ h ∧ h ≤ s.size then some (.v (.string (s.extract l h))) else none
  | _ => none
def oOpd : Option Operand → Option (Option Opd)
  | none => some none
  | some x => (ofOperand x).map some
section
variable {P : Program} {n : Nat} {o : Oper} {a : AF} {S : St} {nid : Nat} {v : AV}

theorem bnd_run {E : Env} {act : Act} (hF : RepF E n a act) {x : Option Operand} {X : Option Opd} (hx : oOpd x = some X) {d m y : Nat} (h : bnd d (X.map (·.ev a)) = some m) (hy : m ≤ y) (code : BoundsCode) (w : World) :
    (match x.map act.eval with | some v => Instr.sliceBound v y code | none => pure d : Sem Nat).run P w = .ok m w := by
  cases x with
  | none =>
    simp only [oOpd, Option.some.injEq] at hx
    subst hx
    simp [bnd] at h
    subst h; rfl
  | some x =>
    simp only [oOpd, Option.map_eq_some_iff] at hx
    obtain ⟨X', hX, rfl⟩ := hx
    have r := ofOperand_ok hF hX
    simp only [Option.map_some] at h
    generalize X'.ev a = p at r h
    unfold bnd at h
    split at h
    · simp at *
    · rename_i k q hq
      cases hq
      have e := r.v_inv
      split at h
      · rename_i h0
        cases h
        have : q ≤ (y : Int) := by omega
        simp [Instr.sliceBound, e, asIntOf, h0, this]
      · cases h
    · cases h
theorem ok_slc {t : TypeId} {x : Operand} {lo hi : Option Operand} {X : Opd} {LO HI : Option Opd} {es : Nat} {S' : St} (hd : ∀ d, o.dst = some d → d < n) (hop : o.op = .slice t x lo hi none) (hx : ofOperand x = some X)
    (hlo : oOpd lo = some LO) (hhi : oOpd hi = some HI) (ht : sliceSz P t = some es) (h : (exSlc es (X.ev a) (LO.map (·.ev a)) (HI.map (·.ev a))).run S nid = some (v, S')) : S' = S ∧ OpOk P n o a S nid v S := by
  unfold sliceSz at ht
  split at ht
  · rename_i e hu
    simp only [Option.map_eq_some_iff] at ht
    obtain ⟨ie, hie, rfl⟩ := ht
    have run : ∀ {E : Env} {w : World} {act : Act} (hF : RepF E n a act) (A : Option Addr) (len cap l hh : Nat), act.eval x = .slice A len cap → bnd 0 (LO.map (·.ev a)) = some l → bnd len (HI.map (·.ev a)) = some hh → l ≤ hh → hh ≤ cap →
        (execOp act.eval o).run P w = .ok (.value (.slice (if cap = l then A else A.map (·.add (l * ie.size))) (hh - l) (cap - l))) w := by
      intro E w act hF A len cap l hh ev hl hh1 h1 h2
      have b1 := bnd_run (P := P) hF hhi hh1 h2 .sliceAcap w
      have b2 := bnd_run (P := P) hF hlo hl h1 .sliceB w
      have b3 : (Instr.sliceBounds true len cap (lo.map act.eval) (hi.map act.eval) none).run P w = .ok (l, hh, cap) w := by
        cases hi with
        | none =>
          have : hh = len := by simp only [oOpd, Option.some.injEq] at hhi; subst hhi; simp [bnd] at hh1; exact hh1.symm
          subst this
          cases lo with
          | none =>
            have : l = 0 := by simp only [oOpd, Option.some.injEq] at hlo; subst hlo; simp [bnd] at hl; exact hl.symm
            subst this
            simp [Instr.sliceBounds]
          | some y =>
            simp only [Option.map_some] at b2
            simp [Instr.sliceBounds, b2]
        | some z =>
          simp only [Option.map_some] at b1
          cases lo with
          | none =>
            have : l = 0 := by simp only [oOpd, Option.some.injEq] at hlo; subst hlo; simp [bnd] at hl; exact hl.symm
            subst this
            simp [Instr.sliceBounds, b1]
          | some y =>
            simp only [Option.map_some] at b2
            simp [Instr.sliceBounds, b1, b2]
      simp only [execOp, hop, ev, Option.map_none]
      have : (Instr.sliceAt t (.slice A len cap) (lo.map act.eval) (hi.map act.eval) none) = (do
        match ← underlying t with
        | .array n elem =>
          let a ← Instr.sureAddr (.slice A len cap)
          let (l, h, m) ← Instr.sliceBounds false n n (lo.map act.eval) (hi.map act.eval) none
          let size ← sizeOf elem
          pure (.slice (some (if m = l then a else a.add (l * size))) (h - l) (m - l))
        | _ => Instr.slice t (.slice A len cap) (lo.map act.eval) (hi.map act.eval) none) := rfl
      rw [this]
      simp [run_underlying hu, Instr.slice, b3, run_sizeOf hie]
    unfold exSlc at h
    split at h
    · rename_i t' xs hxe
      simp only [Eff.run_val, Option.map_eq_some_iff, Prod.mk.injEq, Option.bind_eq_some_iff] at h
      obtain ⟨v', ⟨l, hl, hh, hh1, h1⟩, rfl, rfl⟩ := h
      split at h1
      · rename_i hc
        obtain ⟨c1, c2, c3⟩ := hc
        cases h1
        refine ⟨rfl, .pure hd fun E w act hS hF => ?_⟩
        have rx := ofOperand_ok hF hx
        rw [hxe] at rx
        generalize hev : act.eval x = av at rx
        cases rx with
        | sl0 _ A cap ht =>
          simp only [List.length_nil, Nat.le_zero] at c2
          subst c2
          have : l = 0 := by omega
          subst this
          refine ⟨_, run hF A 0 cap 0 0 hev hl hh1 (by omega) (by omega), ?_⟩
          simp only [List.take_nil, List.drop_nil, Nat.sub_zero]
          refine .sl0 _ _ cap (fun e => ht ?_)
          simp at e; first | exact e.1 | exact e
        | sl _ _ b p cap cs es' f hne hb hes hcap htt hat hcc hr =>
          have hes' : es' = ie.size := by
            have := List.getElem_mem hne
            rw [← hes _ this]; exact c3 _ this
          subst hes'
          refine ⟨_, run hF _ xs.length cap l hh hev hl hh1 c1 (by omega), ?_⟩
          have hlen : ((xs.take hh).drop l).length = hh - l := by simp; omega
          have htight : (t' && ((HI.map (·.ev a)).isNone || hh == xs.length)) = true → cap - l = hh - l := by
            intro e
            simp only [Bool.and_eq_true, Bool.or_eq_true, beq_iff_eq] at e
            rcases e.2 with h2 | h2
            · have h2 : HI.map (·.ev a) = none := by simpa using h2
              rw [h2] at hh1
              simp [bnd] at hh1
              rw [htt e.1]; omega
            · rw [htt e.1, h2]
          by_cases hz : hh - l = 0
          · have : (xs.take hh).drop l = [] := List.eq_nil_of_length_eq_zero (by rw [hlen]; exact hz)
            rw [this, hz]
            exact .sl0 _ _ _ (fun e => by rw [htight e, hz])
          · rw [if_neg (by omega)]
            simp only [Option.map_some, addr_add]
            have htk : ∀ x ∈ xs.take hh, x.cells.length = ie.size := fun x hx => hes x (List.mem_of_mem_take hx)
            have hf : flat ((xs.take hh).drop l) = ((flat xs).take (hh * ie.size)).drop (l * ie.size) := by rw [flat_drop htk, flat_take hes]
            rw [← hlen]
            refine .sl _ _ b (p + l * ie.size) _ cs ie.size (fun k => f (l * ie.size + k)) (by omega) hb (fun y hy => htk y (List.mem_of_mem_drop hy)) (by omega) (fun e => by rw [htight e, hlen]) ?_ ?_ ?_
            · intro y hy; rw [hf] at hy; exact hat y (List.mem_of_mem_take (List.mem_of_mem_drop hy))
            · intro k hk
              rw [hf] at hk
              simp only [List.length_drop, List.length_take] at hk
              rw [Nat.add_assoc]; exact hcc _ (by omega)
            · intro k hk
              have hk2 := hk
              rw [hf] at hk2
              simp only [List.length_drop, List.length_take] at hk2
              have : (flat ((xs.take hh).drop l))[k] = (flat xs)[l * ie.size + k]'(by omega) := by
                simp only [hf, List.getElem_drop, List.getElem_take]
              rw [this]; exact hr _ (by omega)
      · cases h1
    · rename_i id off len hxe
      simp only [Eff.run_rd, Option.map_eq_some_iff, Prod.mk.injEq] at h
      obtain ⟨v', h1, rfl, rfl⟩ := h
      cases hg : S.g id with
      | none => rw [hg] at h1; simp at h1
      | some bk =>
        rw [hg] at h1
        cases bk with
        | map e => simp at h1
        | arr es' xs =>
          simp only [Option.bind_some, Option.bind_eq_some_iff] at h1
          obtain ⟨l, hl, hh, hh1, h2⟩ := h1
          split at h2
          · rename_i hc
            obtain ⟨c1, c2, c3⟩ := hc
            cases h2
            refine ⟨rfl, .pure hd fun E w act hS hF => ?_⟩
            have rx := ofOperand_ok hF hx
            rw [hxe] at rx
            generalize hev : act.eval x = av at rx
            cases rx with
            | own _ _ _ A cap q hq hlen hA =>
              obtain ⟨q', e', hN, ok⟩ := hS.live id _ hg
              rw [hq] at e'; cases e'
              have hes : q.es = es' := ok.1
              refine ⟨_, run hF A len cap l hh hev hl hh1 c2 (by omega), ?_⟩
              refine .own id _ _ _ _ q hq (by omega) (fun hne => ?_)
              have hcap0 : cap ≠ 0 := by omega
              obtain ⟨hA1, hA2⟩ := hA hcap0
              rw [if_neg (by omega), hA1]
              refine ⟨?_, by omega⟩
              simp only [Option.map_some, addr_add]
              rw [hes, c1, Nat.add_mul, Nat.add_assoc]
          · cases h2
    · simp at h
  · cases ht
theorem ok_slcS {t : TypeId} {x : Operand} {lo hi : Option Operand} {X : Opd} {LO HI : Option Opd} (hd : ∀ d, o.dst = some d → d < n) (hop : o.op = .slice t x lo hi none) (hx : ofOperand x = some X)
    (hlo : oOpd lo = some LO) (hhi : oOpd hi = some HI) (hu : P.underlying t = some .string) (h : exSlcS (X.ev a) (LO.map (·.ev a)) (HI.map (·.ev a)) = some v) : OpOk P n o a S nid v S := by
  refine .pure hd fun E w act hS hF => ?_
  have rx := ofOperand_ok hF hx
  unfold exSlcS at h
  split at h
  · rename_i s hs
    rw [hs] at rx
    have ev := rx.v_inv
    simp only [Option.bind_eq_some_iff] at h
    obtain ⟨l, hl, hh, hh1, h1⟩ := h
    split at h1
    · rename_i hc
      cases h1
      have b1 := bnd_run (P := P) hF hhi hh1 hc.2 .sliceAlen w
      have b2 := bnd_run (P := P) hF hlo hl hc.1 .sliceB w
      have b3 : (Instr.sliceBounds false s.size s.size (lo.map act.eval) (hi.map act.eval) none).run P w = .ok (l, hh, s.size) w := by
        cases hi with
        | none =>
          have : hh = s.size := by simp only [oOpd, Option.some.injEq] at hhi; subst hhi; simp [bnd] at hh1; exact hh1.symm
          subst this
          cases lo with
          | none =>
            have : l = 0 := by simp only [oOpd, Option.some.injEq] at hlo; subst hlo; simp [bnd] at hl; exact hl.symm
            subst this
            simp [Instr.sliceBounds]
          | some y =>
            simp only [Option.map_some] at b2
            simp [Instr.sliceBounds, b2]
        | some z =>
          simp only [Option.map_some] at b1
          cases lo with
          | none =>
            have : l = 0 := by simp only [oOpd, Option.some.injEq] at hlo; subst hlo; simp [bnd] at hl; exact hl.symm
            subst this
            simp [Instr.sliceBounds, b1]
          | some y =>
            simp only [Option.map_some] at b2
            simp [Instr.sliceBounds, b1, b2]
      refine ⟨.string (s.extract l hh), ?_, .v _ rfl⟩
      simp only [execOp, hop, ev, Option.map_none]
      simp [Instr.sliceAt, run_underlying hu, Instr.slice, b3]
    · cases h1
  · cases h
theorem run_part {E : Env} {w : World} {t : TypeId} {k : Option Nat} (hk : kindOf P t = some k) {cs : List AV} {vs : Array Value} (hn : vs.size = cs.length) (hat : ∀ y ∈ cs, y.atom = true)
    (hr : ∀ j (h : j < cs.length), Rep E (cs[j]) (vs.getD j undef)) {c : Nat} (h : subc k (.agg cs) c = some v) : ∃ val, (part t vs c).run P w = .ok val w ∧ Rep E v val := by
  obtain ⟨d, i, hu, hi, hor⟩ := kindOf_inv hk
  have hget : ∀ j (hj : j < cs.length), vs[j]? = some (vs.getD j undef) := by
    intro j hj; simp [Array.getD_eq_getD_getElem?]; rw [Array.getElem?_eq_getElem (by omega)]; rfl
  rcases hor with ⟨hag, rfl⟩ | ⟨hag, rfl, hs⟩
  · unfold subc at h
    simp only at h
    split at h
    · rename_i hle0
      have hle : c + i.size ≤ cs.length := hle0
      cases h
      refine ⟨.agg (vs.extract c (c + i.size)), by simp [part, run_isAgg hu, hag, run_sizeOf hi], .agg _ _ (by simp [AV.cells]; omega) (fun y hy => hat y (List.mem_of_mem_drop (List.mem_of_mem_take hy))) (fun j hj => ?_)⟩
      simp only [AV.cells, List.length_take, List.length_drop] at hj
      have e : (vs.extract c (c + i.size)).getD j undef = vs.getD (c + j) undef := by
        simp only [Array.getD_eq_getD_getElem?, Array.getElem?_extract]
        rw [if_pos (by omega)]
      rw [e]
      simpa [AV.cells, List.getElem_take, List.getElem_drop] using hr (c + j) (by omega)
    · cases h
  · unfold subc at h
    simp only at h
    obtain ⟨hlt, e⟩ := List.getElem?_eq_some_iff.mp h
    obtain ⟨u, hu1, hu2⟩ : ∃ u, vs[c]? = some u ∧ u = vs.getD c undef := ⟨_, hget c hlt, rfl⟩
    refine ⟨u, by simp [part, run_isAgg hu, hag, hu1], by rw [← e, hu2]; exact hr c hlt⟩
theorem ok_field {s : TypeId} {x : Operand} {X : Opd} {f off : Nat} {k : Option Nat} (hd : ∀ d, o.dst = some d → d < n) (hop : o.op = .field s x f) (hx : ofOperand x = some X) (hk : fieldK P s f = some (off, k))
    (h : exField k off (X.ev a) = some v) : OpOk P n o a S nid v S := by
  refine .pure hd fun E w act hS hF => ?_
  have rx := ofOperand_ok hF hx
  unfold fieldK at hk
  split at hk
  · rename_i fs hu
    split at hk
    · rename_i fd hfd
      simp only [Option.map_eq_some_iff, Prod.mk.injEq] at hk
      obtain ⟨k', hk', rfl, rfl⟩ := hk
      generalize X.ev a = p at rx h
      generalize hev : act.eval x = av at rx
      cases rx with
      | agg cs vs hn hat hr =>
        obtain ⟨val, h1, h2⟩ := run_part (P := P) (w := w) hk' hn hat hr h
        exact ⟨val, by simp [execOp, hop, hev, Instr.field, run_underlying hu, hfd, asAgg, h1], h2⟩
      | _ => simp [exField] at h
    · cases hk
  · cases hk
theorem ok_idxV {t : TypeId} {x i : Operand} {X I : Opd} {m es : Nat} {k : Option Nat} (hd : ∀ d, o.dst = some d → d < n) (hop : o.op = .index t x i) (hx : ofOperand x = some X) (hi : ofOperand i = some I)
    (hk : arrK P t = some (m, es, k)) (h : exIdxV m es k (X.ev a) (I.ev a) = some v) : OpOk P n o a S nid v S := by
  refine .pure hd fun E w act hS hF => ?_
  have rx := ofOperand_ok hF hx
  have ri := ofOperand_ok hF hi
  unfold arrK at hk
  split at hk
  · rename_i m' e hu
    split at hk
    · rename_i ie hie
      simp only [Option.map_eq_some_iff, Prod.mk.injEq] at hk
      obtain ⟨k', hk', rfl, rfl, rfl⟩ := hk
      unfold exIdxV at h
      split at h
      · rename_i cs ki q hxe hie2
        rw [hxe] at rx
        rw [hie2] at ri
        have ei := ri.v_inv
        split at h
        · rename_i hc
          generalize hev : act.eval x = av at rx
          cases rx with
          | agg _ vs hn hat hr =>
            obtain ⟨val, h1, h2⟩ := run_part (P := P) (w := w) hk' hn hat hr h
            exact ⟨val, by simp [execOp, hop, hev, ei, Instr.index, asIntOf, run_underlying hu, hc.1, hc.2, run_sizeOf hie, h1], h2⟩
        · cases h
      · cases h
    · cases hk
  · cases hk
theorem ok_idxS {t : TypeId} {x i : Operand} {X I : Opd} (hd : ∀ d, o.dst = some d → d < n) (hop : o.op = .index t x i) (hx : ofOperand x = some X) (hi : ofOperand i = some I)
    (hu : P.underlying t = some .string) (h : exIdxS (X.ev a) (I.ev a) = some v) : OpOk P n o a S nid v S := by
  refine .pure hd fun E w act hS hF => ?_
  have rx := ofOperand_ok hF hx
  have ri := ofOperand_ok hF hi
  unfold exIdxS at h
  split at h
  · rename_i s ki q hxe hie2
    rw [hxe] at rx
    rw [hie2] at ri
    have ei := ri.v_inv
    have ex := rx.v_inv
    split at h
    · rename_i hc
      simp only [Option.map_eq_some_iff] at h
      obtain ⟨b, hb, rfl⟩ := h
      refine ⟨.int .u8 b.toNat, ?_, .v _ rfl⟩
      simp [execOp, hop, ei, ex, Instr.index, asIntOf, run_underlying hu, hc, hb]
    · cases h
  · cases h
theorem ok_idxP {t : TypeId} {x i : Operand} {X I : Opd} {m es : Nat} (hd : ∀ d, o.dst = some d → d < n) (hop : o.op = .indexAddr t x i) (hx : ofOperand x = some X) (hi : ofOperand i = some I)
    (hk : arrSz P t = some (m, es)) (h : exIdxP m es (X.ev a) (I.ev a) = some v) : OpOk P n o a S nid v S := by
  refine .pure hd fun E w act hS hF => ?_
  have rx := ofOperand_ok hF hx
  have ri := ofOperand_ok hF hi
  unfold arrSz at hk
  split at hk
  · rename_i m' e hu
    simp only [Option.map_eq_some_iff, Prod.mk.injEq] at hk
    obtain ⟨ie, hie, rfl, rfl⟩ := hk
    have run : ∀ A ki q, act.eval x = .pointer (some A) → act.eval i = .int ki q → 0 ≤ q → q < (m' : Int) → (execOp act.eval o).run P w = .ok (.value (.pointer (some (A.add (q.toNat * ie.size))))) w := by
      intro A ki q h1 h2 h3 h4
      simp [execOp, hop, h1, h2, Instr.indexAt, asIntOf, run_underlying hu, Instr.sureAddr, h3, h4, run_sizeOf hie]
    unfold exIdxP at h
    split at h
    · rename_i id ix c ki q hxe hie2
      rw [hxe] at rx
      rw [hie2] at ri
      split at h
      · rename_i hc
        cases h
        generalize hev : act.eval x = av at rx
        cases rx with
        | ptr _ _ _ l hl =>
          refine ⟨_, run _ ki q hev ri.v_inv hc.1 hc.2, ?_⟩
          rw [addr_add, Nat.add_assoc]
          exact .ptr id ix _ l hl
      · cases h
    · rename_i y c ki q hxe hie2
      rw [hxe] at rx
      rw [hie2] at ri
      split at h
      · rename_i hc
        cases h
        generalize hev : act.eval x = av at rx
        cases rx with
        | eptr _ _ b p cs g hb hat hcc hr =>
          refine ⟨_, run _ ki q hev ri.v_inv hc.1 hc.2, ?_⟩
          rw [addr_add, Nat.add_assoc]
          exact .eptr y _ b p cs g hb hat hcc hr
      · cases h
    · cases h
  · cases hk
theorem ok_build {t : TypeId} {ps : Array (Nat × Operand)} {qs : List (Nat × Opd)} {rs : List (Nat × Nat)} {z : AV} {m : Nat} (hd : ∀ d, o.dst = some d → d < n) (hop : o.op = .build t ps)
    (hq : ps.toList.mapM (fun p => (ofOperand p.2).map fun x => (p.1, x)) = some qs) (hp : qs.mapM (fun q => placeOf P t q.1) = some rs) (hz : zeroOf P t = some (z, m)) (hk : fieldsKnown P t = true)
    (h : exBuild z (List.zipWith (fun r q => (r.1, r.2, q.2.ev a)) rs qs) = some v) : OpOk P n o a S nid v S := by
  refine .pure hd fun E w act hS hF => ?_
  obtain ⟨p1, p2⟩ := parts_ok hF hq
  have hm : rs.length = qs.length ∧ ∀ j (h1 : j < qs.length) (h2 : j < rs.length), placeOf P t (qs[j]).1 = some (rs[j]) := by
    clear h p1 p2 hq
    induction qs generalizing rs with
    | nil => simp at hp; subst hp; simp
    | cons q qs ih =>
      simp only [List.mapM_cons, Option.bind_eq_bind, Option.bind_eq_some_iff, Option.pure_def, Option.some.injEq] at hp
      obtain ⟨r, hr, rs', hrs, rfl⟩ := hp
      obtain ⟨a1, a2⟩ := ih hrs
      refine ⟨by simp [a1], fun j h1 h2 => ?_⟩
      cases j with
      | zero => exact hr
      | succ j => simpa using a2 j (by simpa using h1) (by simpa using h2)
  obtain ⟨m1, m2⟩ := hm
  let ps' := ps.map fun p => (p.1, act.eval p.2)
  obtain ⟨val, h1, h2⟩ := run_build (P := P) (E := E) (w := w) hz hk (ps := ps') (qs := List.zipWith (fun r q => (r.1, r.2, q.2.ev a)) rs qs) (by simp [ps', m1]; simpa using p1)
    (fun j hj hj' => by
      simp only [ps', Array.toList_map, List.length_map] at hj
      have hjq : j < qs.length := by omega
      obtain ⟨b1, b2⟩ := p2 j hj hjq
      simp only [ps', Array.toList_map, List.getElem_map, List.getElem_zipWith]
      exact ⟨by rw [b1]; exact m2 j hjq (by omega), b2⟩) h
  exact ⟨val, by simp only [execOp, hop]; simp only [ps'] at h1; simp [h1], h2⟩
end
end Go.Rf

