import Derived.Test.YtpllebbaahanjaaRfOps2
set_option linter.unusedVariables false
set_option linter.unusedSimpArgs false
namespace Go.Rf
open Go.RowKit

theorem splice_get (cs : Array Value) (o : Nat) (vs : List Value) (h : o + vs.length ≤ cs.size) (j : Nat) :
    (cs.toList.take o ++ vs ++ cs.toList.drop (o + vs.length)).toArray[j]? = if o ≤ j ∧ j < o + vs.length then vs[j - o]? else cs[j]? := by
  have hl : (cs.toList.take o).length = o := by simp; omega
  simp only [List.getElem?_toArray]
  rcases Nat.lt_or_ge j o with h1 | h1
  · rw [List.append_assoc, List.getElem?_append_left (by omega), List.getElem?_take, if_pos h1, if_neg (by omega)]; simp
  · rw [List.append_assoc, List.getElem?_append_right (by omega), hl]
    rcases Nat.lt_or_ge j (o + vs.length) with h2 | h2
    · rw [List.getElem?_append_left (by omega), if_pos ⟨h1, h2⟩]
    · rw [List.getElem?_append_right (by omega), List.getElem?_drop, if_neg (by omega)]
      rw [show o + vs.length + (j - o - vs.length) = j by omega]; simp
theorem splice_size (cs : Array Value) (o : Nat) (vs : List Value) (h : o + vs.length ≤ cs.size) :
    (cs.toList.take o ++ vs ++ cs.toList.drop (o + vs.length)).toArray.size = cs.size := by
  simp; omega
theorem flat_atoms {xs : List AV} (h : ∀ y ∈ flat xs, y.atom = true) : ∀ x ∈ xs, ∀ y ∈ x.cells, y.atom = true := by
  intro x hx y hy
  exact h y (by simp only [flat, List.mem_flatMap]; exact ⟨x, hx, hy⟩)
/-- Some cells of a live array are written: what the block then is. -/
theorem BlkOk.put {E : Env} {w : World} {l : Loc} {es : Nat} {xs : List AV} (h : BlkOk E w l (.arr es xs)) (ix : Nat) (hix : ix < xs.length) {x : AV} {v : Value} (r : Rep E x v) (hs : x.solid = true) {c : Nat}
    (hc : c + x.cells.length ≤ (xs[ix]).cells.length) :
    ∃ cs el, w.heap[l.b]? = some (.cells cs el (0, 0)) ∧ l.o + ix * es + c + v.cells.size ≤ cs.size ∧ v.cells.size = x.cells.length ∧ (∀ u ∈ v.cells.toList, u.oneCell' = true) ∧
      BlkOk E (w.setRow l.b (cs.toList.take (l.o + ix * es + c) ++ v.cells.toList ++ cs.toList.drop (l.o + ix * es + c + v.cells.toList.length)).toArray) l (.arr es (xs.set ix (putc xs[ix] c x))) := by
  obtain ⟨h1, h2, h3, h4, cs, el, h5, h6, h7⟩ := h
  obtain ⟨r1, r2⟩ := r.cells hs
  have hy : (xs[ix]).cells.length = es := h3 _ (List.getElem_mem hix)
  have hbd : ix * es + es ≤ l.tot * es := by
    have : (ix + 1) * es ≤ l.tot * es := Nat.mul_le_mul_right _ (by omega)
    rw [Nat.add_mul, Nat.one_mul] at this; exact this
  have hat := r.cells_atom hs
  have hfit : l.o + ix * es + c + v.cells.toList.length ≤ cs.size := by simp only [Array.length_toList]; omega
  refine ⟨cs, el, h5, by simpa using hfit, r1, ?_, ?_⟩
  · intro u hu
    obtain ⟨j, hj, e⟩ := List.mem_iff_getElem.mp hu
    have hj' : j < x.cells.length := by rw [← r1]; simpa using hj
    have := r2 j hj'
    have e2 : v.cells.getD j undef = u := by
      rw [← e]; simp [Array.getD_eq_getD_getElem?]; rw [Array.getElem?_eq_getElem (by simpa using hj)]; rfl
    rw [e2] at this
    exact this.oneCell (hat _ (List.getElem_mem hj'))
  · have hz : (putc xs[ix] c x).cells.length = es := by rw [putc_length hc]; exact hy
    obtain ⟨hl, hget⟩ := flat_set h3 ix hix (x := x) (c := c) (by omega)
    refine ⟨h1, by simpa using h2, mem_set_cells h3 hz, ?_, _, el, setRow_heap w l.b cs _ el _ h5, by rw [splice_size _ _ _ hfit]; exact h6, ?_⟩
    · intro y hy'
      obtain ⟨k, hk, e⟩ := List.mem_iff_getElem.mp hy'
      rw [hget k (by omega)] at e
      split at e
      · rw [← e]; exact hat _ (List.getElem_mem _)
      · rw [← e]; exact h4 _ (List.getElem_mem _)
    · intro k hk
      rw [hget k (by omega)]
      rw [splice_get _ _ _ hfit]
      have hvl : v.cells.toList.length = x.cells.length := by simp [r1]
      by_cases hin : ix * es + c ≤ k ∧ k < ix * es + c + x.cells.length
      · rw [dif_pos hin, if_pos (by omega)]
        have hj : k - (ix * es + c) < x.cells.length := by omega
        refine ⟨v.cells.getD (k - (ix * es + c)) undef, ?_, r2 _ hj⟩
        rw [show l.o + k - (l.o + ix * es + c) = k - (ix * es + c) by omega]
        simp [Array.getD_eq_getD_getElem?]
        rw [Array.getElem?_eq_getElem (by omega)]; rfl
      · rw [dif_neg hin, if_neg (by omega)]
        exact h7 k (by omega)
def sizeK : Option Nat → Nat
  | none => 1
  | some m => m
theorem kindOf_size {P : Program} {t : TypeId} {k : Option Nat} (h : kindOf P t = some k) : ∃ i, P.info? t = some i ∧ i.size = sizeK k := by
  obtain ⟨d, i, _, hi, hor⟩ := kindOf_inv h
  rcases hor with ⟨_, rfl⟩ | ⟨_, rfl, hs⟩
  · exact ⟨i, hi, rfl⟩
  · exact ⟨i, hi, hs⟩
def exStore (m : Nat) (p x : AV) : Eff :=
  match p with
  | .ptr id ix c => .wr id fun
    | .arr es xs => (xs[ix]?).bind fun y => if x.solid = true ∧ x.cells.length = m ∧ c + m ≤ y.cells.length then some (.arr es (xs.set ix (putc y c x))) else none
    | _ => none
  | _ => .val none
section
variable {P : Program} {n : Nat} {o : Oper} {a : AF} {S : St} {nid : Nat} {v : AV}

theorem ok_store {t : TypeId} {p x : Operand} {Y X : Opd} {k : Option Nat} {S' : St} (hd : ∀ d, o.dst = some d → d < n) (hop : o.op = .store t p x) (hp : ofOperand p = some Y) (hx : ofOperand x = some X)
    (hk : kindOf P t = some k) (h : (exStore (sizeK k) (Y.ev a) (X.ev a)).run S nid = some (v, S')) : v = .junk ∧ OpOk P n o a S nid .junk S' := by
  generalize hpe : Y.ev a = q at h
  generalize hxe : X.ev a = y at h
  cases q with
  | ptr id ix c =>
    simp only [exStore, Eff.run_wr, Option.map_eq_some_iff, Prod.mk.injEq] at h
    obtain ⟨b', h1, h2, rfl⟩ := h
    refine ⟨h2.symm, .of_skip hd fun E w act hS hF _ _ => ?_⟩
    cases hg : S.g id with
    | none => rw [hg] at h1; simp at h1
    | some bk =>
      rw [hg] at h1
      cases bk with
      | map e => simp at h1
      | arr es xs =>
        simp only [Option.bind_some] at h1
        cases hxi : xs[ix]? with
        | none => rw [hxi] at h1; simp at h1
        | some z =>
          rw [hxi] at h1
          simp only [Option.bind_some] at h1
          split at h1
          · rename_i hcond
            obtain ⟨hso, hlen, hfit⟩ := hcond
            simp only [Option.some.injEq] at h1
            subst h1
            obtain ⟨hixl, hye⟩ := List.getElem?_eq_some_iff.mp hxi
            have rp := ofOperand_ok hF hp
            have rx := ofOperand_ok hF hx
            rw [hpe] at rp
            rw [hxe] at rx
            generalize hev : act.eval p = av at rp
            cases rp with
            | ptr _ _ _ l hl =>
              obtain ⟨l', e, hN, ok⟩ := hS.live id _ hg
              rw [hl] at e; cases e
              subst hye
              obtain ⟨cs, el, g1, g2, g3, g4, g5⟩ := ok.put ix hixl rx hso (c := c) (by omega)
              obtain ⟨i, hi, hsz⟩ := kindOf_size hk
              have hes : l.es = es := ok.1
              have hst := run_storeCells_at P l.b (l.o + ix * es + c) el (act.eval x).cells.toList 0 cs w g1 (by simpa using g2) g4
              simp only [Nat.add_zero] at hst
              refine ⟨_, E, ?_, hS.write hg hl (fun b hb => setRow_other w l.b b _ hb) g5, ?_, fun _ _ e => e⟩
              · have heq : (act.eval x).cells.size = i.size := by rw [g3, hlen, hsz]
                have hp1 : ∀ (A : Addr), (Sem.run P (pure A) w : Result Addr) = .ok A w := fun _ => rfl
                simp only [execOp, hop, hev, Instr.storeAt, Instr.sureAddr, storeVar, Sem.run_bind, run_sizeOf hi, Result.andThen_ok, hes, hp1, heq, ne_eq, not_true_eq_false, if_false, hst]
                rfl
              · exact .write hg hl rfl rfl rfl (by simp [World.setRow]) (fun b hb => setRow_other w l.b b _ hb)
          · cases h1
  | _ => simp [exStore] at h
/-- A new array of one element: a variable. -/
def exBox (es : Nat) (x : AV) : Eff := .new (if x.solid = true ∧ x.cells.length = es then some (.arr es [x], fun i => .ptr i 0 0) else none)
theorem blk_new {E : Env} {S : St} {w : World} (hS : Sim E S w) {es : Nat} {xs : List AV} {cs : Array Value} (el : TypeId) (tot : Nat) (hes : ∀ x ∈ xs, x.cells.length = es) (hat : ∀ y ∈ flat xs, y.atom = true) (ht : xs.length ≤ tot)
    (hcs : tot * es ≤ cs.size) (hr : ∀ k (h : k < (flat xs).length), ∃ v, cs[k]? = some v ∧ Rep E ((flat xs)[k]) v) :
    BlkOk E (w.alloc (.cells cs el)) ⟨w.heap.size, 0, es, tot⟩ (.arr es xs) :=
  ⟨rfl, ht, hes, hat, cs, el, heap_alloc_new w _, by simpa using hcs, fun k hk => by simpa using hr k hk⟩
theorem OpOk.alloc {es : Nat} {xs : List AV} {f : Nat → AV} (hd : ∀ d, o.dst = some d → d < n) (hes : ∀ x ∈ xs, x.cells.length = es)
    (h : ∀ E w act, Sim E S w → RepF E n a act → ∃ val cs el tot w1, w1.heap.size = w.heap.size ∧ Sim E S w1 ∧ Evo E S w E S w1 ∧ (execOp act.eval o).run P w = .ok (.value val) (w1.alloc (.cells cs el)) ∧ (∀ y ∈ flat xs, y.atom = true) ∧ xs.length ≤ tot ∧
      tot * es ≤ cs.size ∧ (∀ k (hk : k < (flat xs).length), ∃ u, cs[k]? = some u ∧ Rep E ((flat xs)[k]) u) ∧ ∀ E', E'.ρ nid = some ⟨w.heap.size, 0, es, tot⟩ → Rep E' (f nid) val) :
    OpOk P n o a S nid (f nid) (S.set nid (some (.arr es xs))) := by
  refine .of_run hd fun E w act hS hF hn hlt => ?_
  obtain ⟨val, cs, el, tot, w1, h0, hS1, hE1, h1, h2, h3, h4, h5, h6⟩ := h E w act hS hF
  have hb := blk_new hS1 (xs := xs) (cs := cs) el tot hes h2 h3 h4 h5
  rw [h0] at hb
  refine ⟨val, _, E.loc nid ⟨w.heap.size, 0, es, tot⟩, h1, hS1.alloc hn hlt _ _ (by rw [h0]) _ hb, hE1.trans (.alloc hn _ _ (by rw [h0]) _), h6 _ (by simp [Env.loc]), fun i hi e => ?_⟩
  simp [Env.loc, updF, hi, e]
theorem flat_one (x : AV) : flat [x] = x.cells := by simp [flat]
theorem ok_box {t : TypeId} {x : Operand} {X : Opd} {k : Option Nat} {S' : St} (hd : ∀ d, o.dst = some d → d < n) (hop : o.op = .box t x) (hx : ofOperand x = some X)
    (h : (exBox (sizeK k) (X.ev a)).run S nid = some (v, S')) : OpOk P n o a S nid v S' := by
  simp only [exBox, Eff.run_new, Option.map_eq_some_iff, Prod.mk.injEq] at h
  obtain ⟨p, h1, rfl, rfl⟩ := h
  split at h1
  · rename_i hc
    obtain ⟨hso, hlen⟩ := hc
    cases h1
    refine OpOk.alloc (f := fun i => .ptr i 0 0) hd (by simpa using hlen) fun E w act hS hF => ?_
    have rx := ofOperand_ok hF hx
    obtain ⟨r1, r2⟩ := rx.cells hso
    refine ⟨_, (act.eval x).cells, t, 1, w, rfl, hS, .refl _ _ _, by simp [execOp, hop, Instr.box, newVar, newRow]; rfl, ?_, by simp, by rw [Nat.one_mul, r1]; omega, ?_, ?_⟩
    · rw [flat_one]; exact rx.cells_atom hso
    · intro j hj
      simp only [flat_one] at hj ⊢
      refine ⟨(act.eval x).cells.getD j undef, ?_, r2 j hj⟩
      simp [Array.getD_eq_getD_getElem?]
      rw [Array.getElem?_eq_getElem (by omega)]; rfl
    · intro E' he
      have := Rep.ptr (E := E') nid 0 0 _ he
      simpa using this
  · cases h1
end
end Go.Rf

