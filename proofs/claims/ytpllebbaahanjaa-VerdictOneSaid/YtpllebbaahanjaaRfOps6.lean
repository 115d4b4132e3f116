import Derived.Test.YtpllebbaahanjaaRfOps5
set_option linter.unusedVariables false
set_option linter.unusedSimpArgs false
namespace Go.Rf
open Go.RowKit

theorem flat_set_whole {xs : List AV} {es : Nat} (h : ∀ x ∈ xs, x.cells.length = es) {i : Nat} (hi : i < xs.length) (x : AV) :
    flat (xs.set i x) = (flat xs).take (i * es) ++ x.cells ++ (flat xs).drop (i * es + es) := by
  rw [List.set_eq_take_append_cons_drop, if_pos hi]
  have : i * es + es = (i + 1) * es := by rw [Nat.add_mul, Nat.one_mul]
  rw [this, ← flat_take h, ← flat_drop h, flat_append]
  simp [flat]
theorem lfill_afill {es : Nat} : ∀ (ps : List (Nat × AV)) (xs xs' : List AV), (∀ x ∈ xs, x.cells.length = es) → lfill es xs ps = some xs' →
    afill (flat xs) (ps.map fun p => (p.1 * es, es, p.2)) = some (flat xs') ∧ (∀ x ∈ xs', x.cells.length = es) ∧ xs'.length = xs.length
  | [], xs, xs', hx, h => by simp [lfill] at h; subst h; exact ⟨by simp [afill], hx, rfl⟩
  | (i, x) :: ps, xs, xs', hx, h => by
    simp only [lfill] at h
    split at h
    · rename_i hc
      obtain ⟨c1, c2, c3⟩ := hc
      have hx' : ∀ y ∈ xs.set i x, y.cells.length = es := mem_set_cells hx c2
      obtain ⟨a, b, c⟩ := lfill_afill ps _ xs' hx' h
      refine ⟨?_, b, by simpa using c⟩
      simp only [List.map_cons, afill]
      have hl := length_flat hx
      have h9 : (i + 1) * es ≤ xs.length * es := Nat.mul_le_mul_right _ (by omega)
      rw [Nat.add_mul, Nat.one_mul] at h9
      rw [if_pos ⟨c1, c2, by omega⟩, ← flat_set_whole hx c3]
      exact a
    · cases h
theorem repL_made {E : Env} {z : AV} {zc : Array Value} {es : Nat} (hz : RepL E z.cells zc) (he : z.cells.length = es) (m : Nat) (c : Nat) (hmc : m ≤ c) :
    ∀ k (h : k < (flat (List.replicate m z)).length), ∃ v, ((Array.range (c * es)).map (zc[· % zc.size]!))[k]? = some v ∧ Rep E ((flat (List.replicate m z))[k]) v := by
  intro k hk
  have hx : ∀ x ∈ List.replicate m z, x.cells.length = es := by intro x hx; rw [(List.mem_replicate.mp hx).2]; exact he
  obtain ⟨hi, hj, e⟩ := flat_get hx k hk
  have hl := length_flat hx
  simp only [List.length_replicate] at hl hi
  have hkc : k < c * es := by
    have : m * es ≤ c * es := Nat.mul_le_mul_right _ hmc
    omega
  have hes : 0 < es := by
    rcases Nat.eq_zero_or_pos es with e | e
    · subst e; omega
    · exact e
  have hsz : zc.size = es := by rw [hz.1, he]
  have hmod : k % es < z.cells.length := by rw [he]; exact Nat.mod_lt _ hes
  obtain ⟨v, a, b⟩ := hz.2.2 (k % es) hmod
  refine ⟨v, ?_, ?_⟩
  · rw [Array.getElem?_map, Array.getElem?_range, if_pos hkc]
    simp only [Option.map_some, hsz]
    have h8 : k % es < zc.size := by rw [hsz]; exact Nat.mod_lt _ hes
    rw [getElem!_pos zc _ h8, ← a, Array.getElem?_eq_getElem h8]
  · rw [e]
    simpa using b
def exMks (es by_ : Nat) (z l c : AV) : Eff :=
  match l, c with
  | .v (.int _ m), .v (.int _ k) => .new (if 0 ≤ m ∧ m ≤ k ∧ by_ * k ≤ 281474976710656 ∧ k ≤ 9223372036854775807 ∧ z.cells.length = es then some (.arr es (List.replicate m.toNat z), fun i => .own i 0 m.toNat) else none)
  | _, _ => .val none
def exBslice (es m : Nat) (z : AV) (ps : List (Nat × AV)) : Option AV :=
  if m * es ≤ 16777216 then (lfill es (List.replicate m z) ps).map (.sl true) else none
/-- A slice type's element: zero value, size, bytes. -/
def elemOf3 (P : Program) (t : TypeId) : Option (AV × Nat × Nat) :=
  match P.underlying t with
  | some (.slice e) => match zeroOf P e with
    | some (z, m) => (P.info? e).map fun i => (z, m, i.bytes)
    | none => none
  | _ => none
theorem elemOf3_inv {P : Program} {t : TypeId} {z : AV} {m b : Nat} (h : elemOf3 P t = some (z, m, b)) : ∃ e i, P.underlying t = some (.slice e) ∧ zeroOf P e = some (z, m) ∧ P.info? e = some i ∧ i.bytes = b := by
  unfold elemOf3 at h
  split at h
  · rename_i e hu
    split at h
    · rename_i z' m' hz
      simp only [Option.map_eq_some_iff, Prod.mk.injEq] at h
      obtain ⟨i, hi, rfl, rfl, rfl⟩ := h
      exact ⟨e, i, hu, hz, hi, rfl⟩
    · cases h
  · cases h
section
variable {P : Program} {n : Nat} {o : Oper} {a : AF} {S : St} {nid : Nat} {v : AV}

theorem ok_mks {t : TypeId} {l c : Operand} {L C : Opd} {z : AV} {es by_ : Nat} {S' : St} (hd : ∀ d, o.dst = some d → d < n) (hop : o.op = .makeSlice t l c) (hl : ofOperand l = some L) (hc : ofOperand c = some C)
    (ht : elemOf3 P t = some (z, es, by_)) (h : (exMks es by_ z (L.ev a) (C.ev a)).run S nid = some (v, S')) : OpOk P n o a S nid v S' := by
  generalize hle : L.ev a = al at h
  generalize hce : C.ev a = ac at h
  unfold exMks at h
  split at h
  · rename_i k1 m k2 k
    simp only [Eff.run_new, Option.map_eq_some_iff, Prod.mk.injEq] at h
    obtain ⟨p, h1, rfl, rfl⟩ := h
    split at h1
    · rename_i hcond
      obtain ⟨c1, c2, c3, c4, c5⟩ := hcond
      cases h1
      obtain ⟨e, i, hu, hz, hi, hb⟩ := elemOf3_inv ht
      have hrepl : ∀ x ∈ List.replicate m.toNat z, x.cells.length = es := by intro x hx; rw [(List.mem_replicate.mp hx).2]; exact c5
      refine OpOk.alloc (f := fun i => .own i 0 m.toNat) hd hrepl fun E w act hS hF => ?_
      have rl := ofOperand_ok hF hl
      have rc := ofOperand_ok hF hc
      rw [hle] at rl
      rw [hce] at rc
      have el := rl.v_inv
      have ec := rc.v_inv
      obtain ⟨i', zv, g1, g2, g3, g4, g5⟩ := zeroOf_rep (E := E) hz
      rw [hi] at g1; cases g1
      have hrun := run_make (P := P) w t e i zv hu hi g2 k1 k2 m k c1 c2 (by rw [hb]; exact c3) c4
      refine ⟨.slice (some ⟨w.heap.size, 0, none⟩) m.toNat k.toNat, madeCells zv.cells (k.toNat * i.size), e, k.toNat, w, rfl, hS, .refl _ _ _, by simp [execOp, hop, el, ec, hrun], ?_, by simp; omega, by simp [madeCells, g3], ?_, ?_⟩
      · intro y hy
        obtain ⟨x, hx, hyx⟩ := List.mem_flatMap.mp hy
        rw [(List.mem_replicate.mp hx).2] at hyx
        exact g4.2.1 y hyx
      · intro j hj
        have := repL_made g4 c5 m.toNat k.toNat (by omega) j hj
        rw [madeCells, g3]; exact this
      · intro E' he
        exact .own nid 0 _ (some ⟨w.heap.size, 0, none⟩) k.toNat _ he (by omega) (fun _ => ⟨by simp, by simp⟩)
    · cases h1
  · simp at h
theorem ok_bslice {t : TypeId} {m : Nat} {ps : Array (Nat × Operand)} {qs : List (Nat × Opd)} {z : AV} {es by_ : Nat} (hd : ∀ d, o.dst = some d → d < n) (hop : o.op = .buildSlice t m ps)
    (hq : ps.toList.mapM (fun p => (ofOperand p.2).map fun x => (p.1, x)) = some qs) (ht : elemOf3 P t = some (z, es, by_)) (h : exBslice es m z (qs.map fun q => (q.1, q.2.ev a)) = some v) : OpOk P n o a S nid v S := by
  simp only [exBslice] at h
  split at h
  · rename_i hm
    simp only [Option.map_eq_some_iff] at h
    obtain ⟨xs, hf, rfl⟩ := h
    obtain ⟨e, i, hu, hz, hi, hb⟩ := elemOf3_inv ht
    refine .of_run hd fun E w act hS hF hn hlt => ?_
    obtain ⟨i', zv, g1, g2, g3, g4, g5⟩ := zeroOf_rep (E := E) hz
    obtain ⟨_, _, q1, q2, q3, q4, q5, q6, q7⟩ := zeroOf_inv hz
    rw [hi] at g1; cases g1
    obtain ⟨p1, p2⟩ := parts_ok hF hq
    have hrepl : ∀ x ∈ List.replicate m z, x.cells.length = es := by intro x hx; rw [(List.mem_replicate.mp hx).2]; exact q5
    obtain ⟨f1, f2, f3⟩ := lfill_afill _ _ _ hrepl hf
    have hl0 := length_flat hrepl
    simp only [List.length_replicate] at hl0
    have hstart : RepL E (flat (List.replicate m z)) ((Array.range (m * es)).map (zv.cells[· % zv.cells.size]!)) := by
      refine ⟨by simp [hl0], ?_, repL_made g4 q5 m m (Nat.le_refl _)⟩
      intro y hy
      obtain ⟨x, hx, hyx⟩ := List.mem_flatMap.mp hy
      rw [(List.mem_replicate.mp hx).2] at hyx
      exact g4.2.1 y hyx
    let ps' := ps.map fun p => (p.1, act.eval p.2)
    obtain ⟨cells', e1, e2⟩ := fill_ok (fun j => some (j * es, es)) ps'.toList ((qs.map fun q => (q.1, q.2.ev a)).map fun p => (p.1 * es, es, p.2)) _ _ _ hstart (by simp [ps']; simpa using p1)
      (fun j hj hj' => by
        simp only [ps', Array.toList_map, List.length_map] at hj hj'
        obtain ⟨a1, a2⟩ := p2 j hj (by omega)
        simp only [ps', Array.toList_map, List.getElem_map]
        exact ⟨by rw [a1], a2⟩) f1
    have hnone : E.H w.heap.size = none := hS.H_none (Nat.le_refl _)
    have hrun : (execOp act.eval o).run P w = .ok (.value (.slice (some ⟨w.heap.size, 0, none⟩) m m)) (w.alloc (.cells cells' e)) := by
      simp only [execOp, hop]
      by_cases h0 : m * i.size = 0
      · have h00 : m * es = 0 := by rw [← g3]; exact h0
        have e1' : Instr.fill (fun j => some (j * i.size, i.size)) #[] ps'.toList = some cells' := by
          rw [g3, ← e1]; congr 1
          rw [h00]; simp [Array.range_zero']
        simp [Instr.buildSlice, run_underlying hu, run_sizeOf hi, h0, newRow, Array.range_zero']
        have e1'' : Instr.fill (fun j => some (j * i.size, i.size)) #[] (List.map (fun x => (x.1, act.eval x.2)) ps.toList) = some cells' := by simpa [ps'] using e1'
        rw [e1'']; simp
      · have hle : ¬ (m * i.size > 16777216) := by rw [g3]; omega
        have e1'' : Instr.fill (fun j => some (j * i.size, i.size)) ((Array.range (m * i.size)).map (zv.cells[· % zv.cells.size]!)) (List.map (fun x => (x.1, act.eval x.2)) ps.toList) = some cells' := by
          rw [g3]; simpa [ps'] using e1
        simp [Instr.buildSlice, run_underlying hu, run_sizeOf hi, h0, newRow, zeroValue, typeInfo, hi, g2]
        rw [if_neg (by omega)]
        simp [e1'']
    have hS1 : Sim (E.frz w.heap.size cells') S (w.alloc (.cells cells' e)) := by
      have hj := hS.junk (.cells cells' e)
      have hle := Env.le_frz (cs := cells') hnone
      refine ⟨fun b cs hb => ?_, fun id k hk => ?_, hj.dis, hj.fresh⟩
      · simp only [Env.frz, updF] at hb
        split at hb
        · cases hb; subst_vars; exact ⟨e, (0, 0), heap_alloc_new w _⟩
        · exact hj.hH b cs hb
      · obtain ⟨l, a1, a2, a3⟩ := hj.live id k hk
        obtain ⟨l2, b1, b2, b3⟩ := hS.live id k hk
        rw [a1] at b1; cases b1
        refine ⟨l, a1, ?_, a3.mono hle rfl⟩
        simp only [Env.frz, updF]
        rw [if_neg (by have := b3.lt; omega)]; exact a2
    refine ⟨_, _, E.frz w.heap.size cells', hrun, hS1, ?_, ?_, fun _ _ e => e⟩
    · have := Evo.junk E S w (.cells cells' e)
      exact ⟨this.os, this.tape, this.output, this.size, this.keep, fun id l k hk hl => this.grow id l k hk hl, Env.le_frz hnone, fun b cs e => by
        simp only [Env.frz, updF] at e
        split at e
        · subst_vars; exact .inr (.inl (Nat.le_refl _))
        · exact .inl e⟩
    · have hxl : xs.length = m := by rw [f3]; simp
      by_cases hx0 : xs = []
      · subst hx0
        simp at hxl
        subst hxl
        exact .sl0 true _ 0 (fun _ => rfl)
      · have hlen : 0 < xs.length := List.length_pos_iff.mpr hx0
        have e3 := e2.2.2
        rw [← hxl]
        refine .sl true xs w.heap.size 0 _ cells' es (fun k => cells'.getD k undef) hlen (by simp [Env.frz]) f2 (Nat.le_refl _) (fun _ => rfl) e2.2.1 (fun k hk => ?_) (fun k hk => ?_)
        · obtain ⟨u, a1, _⟩ := e3 k hk
          simp [Array.getD_eq_getD_getElem?, a1]
        · obtain ⟨u, a1, a2⟩ := e3 k hk
          simp [Array.getD_eq_getD_getElem?, a1]
          exact a2.mono (Env.le_frz hnone)
  · cases h
end
end Go.Rf

