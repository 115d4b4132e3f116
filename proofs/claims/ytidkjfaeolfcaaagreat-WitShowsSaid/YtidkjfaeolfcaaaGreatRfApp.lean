import Derived.Test.YtidkjfaeolfcaaaGreatRfOps4
set_option linter.unusedVariables false
set_option linter.unusedSimpArgs false
namespace Go.Rf
open Go.RowKit

/-- An element's cells and bytes. -/
def appSz (P : Program) (t : TypeId) : Option (Nat × Nat) :=
  match P.underlying t with
  | some (.slice e) => match P.info? e with
    | some i => match i.zero with
      | some z => if z.cells.size = i.size then some (i.size, i.bytes) else none
      | none => none
    | none => none
  | _ => none
theorem appSz_inv {P : Program} {t : TypeId} {es by_ : Nat} (h : appSz P t = some (es, by_)) :
    ∃ e i z, P.underlying t = some (.slice e) ∧ P.info? e = some i ∧ i.zero = some z ∧ z.cells.size = es ∧ i.size = es ∧ i.bytes = by_ := by
  unfold appSz at h
  split at h
  · rename_i e hu
    split at h
    · rename_i i hi
      split at h
      · rename_i z hz
        split at h
        · rename_i hs
          simp only [Option.some.injEq, Prod.mk.injEq] at h
          exact ⟨e, i, z, hu, hi, hz, hs.trans h.1, h.1, h.2⟩
        · cases h
      · cases h
    · cases h
  · cases h
theorem run_append_stay (P : Program) (w : World) (t ty e : TypeId) (i : TypeInfo) (ht : P.underlying t = some (.slice e)) (hi : P.info? e = some i)
    (b q : Nat) (sLen sCap : Nat) (B : Option Addr) (m c : Nat) (news : List Value) (hnew : (Builtin.firstCells i.size m (.slice B m c)).run P w = .ok news.toArray w)
    (hroom : sLen + m ≤ sCap) (w2 : World) (hst : (storeCells ⟨b, q + sLen * i.size, none⟩ news).run P w = .ok () w2) :
    (Builtin.append_ #[t, t] ty #[.slice (some ⟨b, q, none⟩) sLen sCap, .slice B m c]).run P w = .ok (.slice (some ⟨b, q, none⟩) (sLen + m) sCap) w2 := by
  simp [Builtin.append_, run_underlying ht, sizeOf, typeInfo, hi, Builtin.lenOf, hroom, hnew, addr_add, hst]
theorem run_append_keep (P : Program) (w : World) (t ty e : TypeId) (i : TypeInfo) (ht : P.underlying t = some (.slice e)) (hi : P.info? e = some i)
    (A : Option Addr) (sLen sCap : Nat) (B : Option Addr) (c : Nat) (hroom : sLen ≤ sCap) :
    (Builtin.append_ #[t, t] ty #[.slice A sLen sCap, .slice B 0 c]).run P w = .ok (.slice A sLen sCap) w := by
  cases A <;> cases B <;> simp [Builtin.append_, run_underlying ht, sizeOf, typeInfo, hi, Builtin.lenOf, hroom, Builtin.firstCells, loadCells, loadCellsFrom, storeCells]
theorem run_append_new (P : Program) (w : World) (t ty e : TypeId) (i : TypeInfo) (z : Value) (ht : P.underlying t = some (.slice e)) (hi : P.info? e = some i) (hz : i.zero = some z)
    (A : Option Addr) (sLen sCap : Nat) (olds : List Value) (hold : (Builtin.firstCells i.size sLen (.slice A sLen sCap)).run P w.drew = .ok olds.toArray w.drew)
    (B : Option Addr) (m c : Nat) (news : List Value) (hnew : (Builtin.firstCells i.size m (.slice B m c)).run P w.drew = .ok news.toArray w.drew)
    (hg : sCap < sLen + m) (h63 : ((sLen + m : Nat) : Int) ≤ 9223372036854775807) (hfit : Builtin.nextslicecap (sLen + m) sCap * i.bytes ≤ 281474976710656) :
    (Builtin.append_ #[t, t] ty #[.slice A sLen sCap, .slice B m c]).run P w =
      .ok (.slice (some ⟨w.heap.size, 0, none⟩) (sLen + m) (grownCap w (sLen + m) sCap e))
        (w.drew.alloc (.cells (olds ++ news ++ (Builtin.zeroCells z.cells (grownCap w (sLen + m) sCap e - (sLen + m))).toList).toArray e)) := by
  have hn : ¬ (sLen + m ≤ sCap) := by omega
  have h63' : ¬ (9223372036854775807 < ((sLen : Int) + (m : Int))) := by omega
  have h48' : ¬ (281474976710656 < Builtin.nextslicecap (sLen + m) sCap * i.bytes) := by omega
  simp [Builtin.append_, run_underlying ht, sizeOf, typeInfo, zeroValue, hi, hz, Builtin.lenOf, hn, h63', h48', Question.forced, hnew, hold, newRow, grownCap]
  congr 2
  apply Array.ext'
  simp [List.append_assoc]
theorem Reads.drew {E : Env} {w : World} {es : Nat} {ys : List AV} {A : Option Addr} (h : Reads E w es ys A) : Reads E w.drew es ys A := ⟨h.hes, h.hat, h.at_⟩
/-- Elements, and whether they lie under a number (of elements of es cells). -/
def lstE (es : Nat) (bs : List Blk) : AV → Option (List AV)
  | .sl _ xs => if ∀ x ∈ xs, x.cells.length = es then some xs else none
  | .own _ off len => match bs with
    | [.arr es' xs] => if es' = es ∧ off + len ≤ xs.length then some ((xs.drop off).take len) else none
    | _ => none
  | _ => none
def AV.oid : AV → List Nat
  | .own id _ _ => [id]
  | _ => []
def appOk (by_ n m : Nat) : Prop := (n + m) * by_ ≤ 140737488355328 ∧ n + m ≤ 140737488355328
instance (by_ n m : Nat) : Decidable (appOk by_ n m) := by unfold appOk; exact inferInstance
def exApp (es by_ : Nat) (x y : AV) : Eff :=
  match x with
  | .sl true xs => ⟨y.oid, fun bs => (lstE es bs y).bind fun ys =>
      if (∀ z ∈ xs, z.cells.length = es) ∧ appOk by_ xs.length ys.length then
        (if ys.length = 0 then some ⟨fun _ => .sl true xs, [], none⟩ else some ⟨fun i => .own i 0 (xs.length + ys.length), [], some (.arr es (xs ++ ys))⟩)
      else none⟩
  | .own id off len => ⟨id :: y.oid, fun
    | .arr es' xs :: bs => (lstE es bs y).bind fun ys =>
        if es' = es ∧ off + len = xs.length ∧ appOk by_ len ys.length ∧ y.oid ≠ [id] then some ⟨fun i => .own i 0 (len + ys.length), [none], some (.arr es (xs.drop off ++ ys))⟩
        else if es' = es ∧ off + len < xs.length ∧ appOk by_ len ys.length ∧ y.oid ≠ [id] then some ⟨fun i => .own i 0 (len + ys.length), [none], some (.arr es ((xs.take (off + len)).drop off ++ ys))⟩ else none
    | _ => none⟩
  | _ => .val none
/-- The number behind y stands for y's elements. -/
theorem lstE_reads {E : Env} {S : St} {w : World} (hS : Sim E S w) {es : Nat} {y : AV} {val : Value} (r : Rep E y val) {bs : List Blk} (hb : y.oid.mapM S.g = some bs) {ys : List AV} (h : lstE es bs y = some ys) :
    ∃ A cap, val = .slice A ys.length cap ∧ Reads E w es ys A := by
  unfold lstE at h
  split at h
  · rename_i t xs
    split at h
    · rename_i hes
      cases h
      obtain ⟨A, cap, e, _, _, hr⟩ := reads_sl hS r hes
      exact ⟨A, cap, e, hr⟩
    · cases h
  · rename_i id off len
    simp only [AV.oid, List.mapM_cons, List.mapM_nil, Option.pure_def, Option.bind_eq_bind, Option.bind_eq_some_iff, Option.some.injEq] at hb
    obtain ⟨b0, hb0, _, rfl, rfl⟩ := hb
    cases b0 with
    | map e => simp at h
    | arr es' xs =>
      simp only at h
      split at h
      · rename_i hc
        cases h
        obtain ⟨rfl, hl⟩ := hc
        obtain ⟨A, cap, e, _, hr⟩ := reads_own hS r hb0 hl
        refine ⟨A, cap, ?_, hr⟩
        rw [e]
        have : ((xs.drop off).take len).length = len := by simp; omega
        rw [this]
      · cases h
  · cases h
theorem appOk_63 {by_ n m : Nat} (h : appOk by_ n m) : ((n + m : Nat) : Int) ≤ 9223372036854775807 := by have := h.2; omega
theorem appOk_fit {by_ n m cap : Nat} (h : appOk by_ n m) (hc : cap < n + m) : Builtin.nextslicecap (n + m) cap * by_ ≤ 281474976710656 := growslice_fits hc h.1
/-- The block that an append that grows makes. -/
theorem blk_grown {E : Env} {w : World} {es : Nat} {xs ys : List AV} {olds news : List Value} {z : Array Value} {cap : Nat} (e : TypeId)
    (hx : ∀ x ∈ xs, x.cells.length = es) (hxa : ∀ y ∈ flat xs, y.atom = true) (hy : ∀ x ∈ ys, x.cells.length = es) (hya : ∀ y ∈ flat ys, y.atom = true)
    (ho : olds.length = xs.length * es) (hn : news.length = ys.length * es) (hz : z.size = es)
    (hro : ∀ k (hk : k < (flat xs).length), ∃ v, olds[k]? = some v ∧ Rep E ((flat xs)[k]) v) (hrn : ∀ k (hk : k < (flat ys).length), ∃ v, news[k]? = some v ∧ Rep E ((flat ys)[k]) v)
    (hcap : xs.length + ys.length ≤ cap) :
    BlkOk E (w.alloc (.cells (olds ++ news ++ (Builtin.zeroCells z (cap - (xs.length + ys.length))).toList).toArray e)) ⟨w.heap.size, 0, es, cap⟩ (.arr es (xs ++ ys)) := by
  have hlx := length_flat hx
  have hly := length_flat hy
  refine ⟨rfl, by simpa using hcap, ?_, ?_, _, e, heap_alloc_new w _, ?_, ?_⟩
  · intro x hx'; rcases List.mem_append.mp hx' with h | h
    · exact hx x h
    · exact hy x h
  · intro y hy'; rw [flat_append] at hy'; rcases List.mem_append.mp hy' with h | h
    · exact hxa y h
    · exact hya y h
  · simp only [Nat.zero_add, List.size_toArray, List.length_append, Array.length_toList, size_zeroCells, hz, ho, hn]
    rw [← Nat.add_mul, ← Nat.add_mul]
    exact Nat.mul_le_mul_right _ (by omega)
  · intro k hk
    rw [flat_append, List.length_append] at hk
    simp only [Nat.zero_add, List.getElem?_toArray]
    by_cases h1 : k < (flat xs).length
    · obtain ⟨v, a, b⟩ := hro k h1
      refine ⟨v, ?_, ?_⟩
      · rw [List.append_assoc, List.getElem?_append_left (by omega)]; exact a
      · have : (flat (xs ++ ys))[k]'(by rw [flat_append, List.length_append]; omega) = (flat xs)[k] := by
          simp only [flat_append]; rw [List.getElem_append_left h1]
        rw [this]; exact b
    · obtain ⟨v, a, b⟩ := hrn (k - (flat xs).length) (by omega)
      refine ⟨v, ?_, ?_⟩
      · rw [List.append_assoc, List.getElem?_append_right (by omega), List.getElem?_append_left (by omega), ho, ← hlx]; exact a
      · have : (flat (xs ++ ys))[k]'(by rw [flat_append, List.length_append]; omega) = (flat ys)[k - (flat xs).length]'(by omega) := by
          simp only [flat_append]; rw [List.getElem_append_right (by omega)]
        rw [this]; exact b
theorem BlkOk.take {E : Env} {w : World} {l : Loc} {es : Nat} {xs : List AV} (h : BlkOk E w l (.arr es xs)) (m : Nat) : BlkOk E w l (.arr es (xs.take m)) := by
  obtain ⟨h1, h2, h3, h4, cs, el, h5, h6, h7⟩ := h
  refine ⟨h1, by rw [List.length_take]; omega, fun x hx => h3 x (List.mem_of_mem_take hx), fun y hy => by rw [flat_take h3] at hy; exact h4 y (List.mem_of_mem_take hy), cs, el, h5, h6, fun k hk => ?_⟩
  have hk2 : k < ((flat xs).take (m * es)).length := by rw [← flat_take h3]; exact hk
  simp only [List.length_take] at hk2
  obtain ⟨v, a, b⟩ := h7 k (by omega)
  refine ⟨v, a, ?_⟩
  have : (flat (xs.take m))[k] = (flat xs)[k]'(by omega) := by simp only [flat_take h3, List.getElem_take]
  rw [this]; exact b
/-- The block behind an append in place. -/
theorem blk_stay {E : Env} {w : World} {l : Loc} {es : Nat} {xs ys : List AV} {news : List Value} (h : BlkOk E w l (.arr es xs)) (off : Nat) (hoff : off ≤ xs.length)
    (hy : ∀ x ∈ ys, x.cells.length = es) (hya : ∀ y ∈ flat ys, y.atom = true) (hn : news.length = ys.length * es)
    (hrn : ∀ k (hk : k < (flat ys).length), ∃ v, news[k]? = some v ∧ Rep E ((flat ys)[k]) v) (hfit : xs.length + ys.length ≤ l.tot) :
    ∃ cs el, w.heap[l.b]? = some (.cells cs el (0, 0)) ∧ (l.o + xs.length * es) + news.length ≤ cs.size ∧
      BlkOk E (w.setRow l.b (cs.toList.take (l.o + xs.length * es) ++ news ++ cs.toList.drop (l.o + xs.length * es + news.length)).toArray) ⟨l.b, l.o + off * es, es, l.tot - off⟩ (.arr es (xs.drop off ++ ys)) := by
  obtain ⟨h1, h2, h3, h4, cs, el, h5, h6, h7⟩ := h
  have hlx := length_flat h3
  have hly := length_flat hy
  have hm : (xs.length + ys.length) * es ≤ l.tot * es := Nat.mul_le_mul_right _ hfit
  rw [Nat.add_mul] at hm
  have hf : l.o + xs.length * es + news.length ≤ cs.size := by omega
  have hd : ∀ x ∈ xs.drop off, x.cells.length = es := fun x hx => h3 x (List.mem_of_mem_drop hx)
  have hof : off * es ≤ xs.length * es := Nat.mul_le_mul_right _ hoff
  refine ⟨cs, el, h5, hf, rfl, by simp; omega, ?_, ?_, _, el, setRow_heap w l.b cs _ el _ h5, ?_, ?_⟩
  · intro x hx'; rcases List.mem_append.mp hx' with h | h
    · exact hd x h
    · exact hy x h
  · intro y hy'; rw [flat_append] at hy'; rcases List.mem_append.mp hy' with h | h
    · rw [flat_drop h3] at h; exact h4 y (List.mem_of_mem_drop h)
    · exact hya y h
  · rw [splice_size _ _ _ hf]
    have : (l.tot - off) * es = l.tot * es - off * es := Nat.sub_mul _ _ _
    have h9 : off * es ≤ l.tot * es := Nat.mul_le_mul_right _ (by omega)
    show l.o + off * es + (l.tot - off) * es ≤ cs.size
    omega
  · intro k hk
    rw [flat_append, List.length_append, flat_drop h3, List.length_drop] at hk
    show ∃ v, _[l.o + off * es + k]? = some v ∧ _
    rw [splice_get _ _ _ hf]
    by_cases h8 : k < (flat xs).length - off * es
    · rw [if_neg (by omega)]
      obtain ⟨v, a, b⟩ := h7 (off * es + k) (by omega)
      refine ⟨v, by rw [Nat.add_assoc]; exact a, ?_⟩
      have : (flat (xs.drop off ++ ys))[k]'(by rw [flat_append, List.length_append, flat_drop h3, List.length_drop]; omega) = (flat xs)[off * es + k]'(by omega) := by
        simp only [flat_append, flat_drop h3]
        rw [List.getElem_append_left (by rw [List.length_drop]; exact h8), List.getElem_drop]
      rw [this]; exact b
    · rw [if_pos (by omega)]
      obtain ⟨v, a, b⟩ := hrn (k - ((flat xs).length - off * es)) (by omega)
      refine ⟨v, ?_, ?_⟩
      · rw [← a]; congr 1; omega
      · have : (flat (xs.drop off ++ ys))[k]'(by rw [flat_append, List.length_append, flat_drop h3, List.length_drop]; omega) = (flat ys)[k - ((flat xs).length - off * es)]'(by omega) := by
          simp only [flat_append, flat_drop h3]
          rw [List.getElem_append_right (by rw [List.length_drop]; omega)]
          simp only [List.length_drop]
        rw [this]; exact b
section
variable {P : Program} {n : Nat} {o : Oper} {a : AF} {S : St} {nid : Nat} {v : AV}

theorem mem_flat_atoms_news {E : Env} {ys : List AV} {news : List Value} (hya : ∀ y ∈ flat ys, y.atom = true) {es : Nat} (hl : (flat ys).length = news.length)
    (hrn : ∀ k (hk : k < (flat ys).length), ∃ v, news[k]? = some v ∧ Rep E ((flat ys)[k]) v) : ∀ u ∈ news, u.oneCell' = true := by
  intro u hu
  obtain ⟨k, hk, e⟩ := List.mem_iff_getElem.mp hu
  obtain ⟨v, a, b⟩ := hrn k (by omega)
  have : u = v := by rw [List.getElem?_eq_getElem hk, e] at a; exact Option.some.inj a
  subst this
  exact b.oneCell (hya _ (List.getElem_mem _))
theorem upd_none (S : St) (id : Nat) : ∀ j k, updF S.g id none j = some k → S.g j = some k := by
  intro j k hk
  simp only [updF] at hk
  split at hk
  · cases hk
  · exact hk
theorem ok_app {t : TypeId} {x y : Operand} {X Y : Opd} {es by_ : Nat} {S' : St} (hd : ∀ d, o.dst = some d → d < n) (hop : o.op = .call { callee := .builtin .append, args := #[x, y], argTypes := #[t, t] })
    (hx : ofOperand x = some X) (hy : ofOperand y = some Y) (ht : appSz P t = some (es, by_)) (h : (exApp es by_ (X.ev a) (Y.ev a)).run S nid = some (v, S')) : OpOk P n o a S nid v S' := by
  obtain ⟨e, i, z, hu, hi, hz, hzs, his, hby⟩ := appSz_inv ht
  subst hby
  generalize hxe : X.ev a = ax at h
  generalize hye : Y.ev a = ay at h
  unfold exApp at h
  split at h
  · -- literal
    rename_i xs
    simp only [Eff.run] at h
    split at h
    · cases h
    · rename_i bs hbs
      cases hle : lstE es bs ay with
      | none => rw [hle] at h; simp at h
      | some ys =>
        rw [hle] at h
        simp only [Option.bind_some] at h
        split at h
        · cases h
        · rename_i out hout
          split at hout
          · rename_i hc
            obtain ⟨hc1, hc2⟩ := hc
            split at hout
            · rename_i hy0
              cases hout
              simp only [St.setL, St.setO, Option.some.injEq, Prod.mk.injEq] at h
              obtain ⟨rfl, rfl⟩ := h
              refine .of_run hd fun E w act hS hF hn hlt => ?_
              have rx := ofOperand_ok hF hx
              have ry := ofOperand_ok hF hy
              rw [hxe] at rx
              rw [hye] at ry
              obtain ⟨B, cb, eb, hrb⟩ := lstE_reads hS ry hbs hle
              obtain ⟨A, ca, ea, hca, hta, hra⟩ := reads_sl hS rx hc1
              rw [hy0] at eb
              have hS0 : (S.setL ay.oid []) = S := by cases ay.oid <;> rfl
              refine ⟨act.eval x, w, E, ?_, by rw [hS0]; exact hS, by rw [hS0]; exact .refl _ _ _, rx, fun hpu => by simp [pureOp, hop] at hpu, fun _ _ e => e⟩
              have := run_append_keep P w t o.type e i hu hi A xs.length ca B cb hca
              simp [execOp, hop, resolve, invoke, builtin, ea, eb, this]
            · rename_i hy0
              cases hout
              simp only [St.setO, Option.some.injEq, Prod.mk.injEq] at h
              obtain ⟨rfl, rfl⟩ := h
              have hS0 : (S.setL ay.oid []) = S := by cases ay.oid <;> rfl
              rw [hS0]
              refine .of_run hd fun E w act hS hF hn hlt => ?_
              have rx := ofOperand_ok hF hx
              have ry := ofOperand_ok hF hy
              rw [hxe] at rx
              rw [hye] at ry
              obtain ⟨B, cb, eb, hrb⟩ := lstE_reads hS ry hbs hle
              obtain ⟨A, ca, ea, hca, hta, hra⟩ := reads_sl hS rx hc1
              obtain ⟨olds, o1, o2, o3, o4⟩ := hra.drew.first (P := P) ca
              obtain ⟨news, n1, n2, n3, n4⟩ := hrb.drew.first (P := P) cb
              have hcap := hta rfl
              rw [← his] at o1 n1
              have hrun := run_append_new P w t o.type e i z hu hi hz A xs.length ca olds o1 B ys.length cb news n1 (by omega) (appOk_63 hc2) (appOk_fit hc2 (by omega))
              have hgc := grownCap_ge w (xs.length + ys.length) ca e
              have hb := blk_grown (E := E) (w := w.drew) e hc1 hra.hat hrb.hes hrb.hat o2 n2 hzs o4 n4 hgc
              refine ⟨_, _, E.loc nid ⟨w.heap.size, 0, es, grownCap w (xs.length + ys.length) ca e⟩, ?_, hS.drew.alloc hn hlt _ _ rfl _ hb, (Evo.drew E S w).trans (.alloc hn _ _ rfl _),
                .own nid 0 _ (some ⟨w.heap.size, 0, none⟩) (grownCap w (xs.length + ys.length) ca e) ⟨w.heap.size, 0, es, grownCap w (xs.length + ys.length) ca e⟩ (by simp [Env.loc]) hgc (fun _ => ⟨by simp, by simp⟩), fun hpu => by simp [pureOp, hop] at hpu, fun j hj ej => by simp [Env.loc, updF, hj, ej]⟩
              simp [execOp, hop, resolve, invoke, builtin, ea, eb, hrun]
          · cases hout
  · -- one of the call's own
    rename_i id off len
    simp only [Eff.run] at h
    split at h
    · cases h
    · rename_i bs0 hbs0
      simp only [List.mapM_cons, Option.bind_eq_bind, Option.bind_eq_some_iff, Option.pure_def, Option.some.injEq] at hbs0
      obtain ⟨b0, hg, bs, hbs, rfl⟩ := hbs0
      cases b0 with
      | map e => simp at h
      | arr es' xs =>
        simp only at h
        cases hle : lstE es bs ay with
        | none => rw [hle] at h; simp at h
        | some ys =>
          rw [hle] at h
          simp only [Option.bind_some] at h
          split at h
          · cases h
          · rename_i out hout
            have key : ∃ xs' : List AV, xs' = xs.take (off + len) ∧ off + len = xs'.length ∧ es' = es ∧ appOk i.bytes len ys.length ∧ ay.oid ≠ [id] ∧ out = ⟨fun i => .own i 0 (len + ys.length), [none], some (.arr es (xs'.drop off ++ ys))⟩ := by
              split at hout
              · rename_i hc
                obtain ⟨c0, c1, c2, c3⟩ := hc
                cases hout
                exact ⟨xs, by rw [c1, List.take_length], c1, c0, c2, c3, rfl⟩
              · split at hout
                · rename_i hc
                  obtain ⟨c0, c1, c2, c3⟩ := hc
                  cases hout
                  exact ⟨xs.take (off + len), rfl, by simp; omega, c0, c2, c3, rfl⟩
                · cases hout
            obtain ⟨xs', hxs', hc1, rfl, hc2, hc3, rfl⟩ := key
            have hS0 : (S.setL (id :: ay.oid) [none]) = S.set id none := by cases ay.oid <;> rfl
            simp only [hS0, St.setO, Option.some.injEq, Prod.mk.injEq] at h
            obtain ⟨rfl, rfl⟩ := h
            refine .of_run hd fun E w act hS hF hn hlt => ?_
            have rx := ofOperand_ok hF hx
            have ry := ofOperand_ok hF hy
            rw [hxe] at rx
            rw [hye] at ry
            obtain ⟨B, cb, eb, hrb⟩ := lstE_reads hS ry hbs hle
            generalize hev : act.eval x = av at rx
            cases rx with
            | own _ _ _ A cap l hl hlen hA =>
              obtain ⟨l', el, hN, ok0⟩ := hS.live id _ hg
              rw [hl] at el; cases el
              have ok : BlkOk E w l (.arr es' xs') := by rw [hxs']; exact ok0.take _
              have hes : l.es = es' := ok.1
              have hoff : off ≤ xs'.length := by omega
              by_cases hroom : len + ys.length ≤ cap
              · by_cases hcap0 : cap = 0
                · -- nothing to nothing
                  have hl0 : len = 0 := by omega
                  have hy0 : ys.length = 0 := by omega
                  subst hl0; subst hcap0
                  rw [hy0] at eb
                  have hrun := run_append_keep P w t o.type e i hu hi A 0 0 B cb (Nat.le_refl _)
                  have hys : ys = [] := List.eq_nil_of_length_eq_zero hy0
                  subst hys
                  have hdr : xs'.drop off = [] := by rw [List.drop_eq_nil_iff]; omega
                  refine ⟨.slice A 0 0, w, E.loc nid ⟨l.b, l.o + off * es', es', l.tot - off⟩, ?_, ?_, .rename (k' := .arr es' (xs'.drop off ++ [])) hg hl hn rfl rfl rfl rfl rfl (fun _ _ => rfl), .own nid 0 _ A 0 ⟨l.b, l.o + off * es', es', l.tot - off⟩ (by simp [Env.loc]) (by simp) (by simp), fun hpu => by simp [pureOp, hop] at hpu, fun j hj ej => by simp [Env.loc, updF, hj, ej]⟩
                  · simp [execOp, hop, resolve, invoke, builtin, hev, eb, hrun]
                  · refine hS.rename hg hl hn hlt rfl (fun _ _ => rfl) ?_
                    obtain ⟨k1, k2, k3, k4, cs, el, k5, k6, k7⟩ := ok
                    rw [hdr]
                    refine ⟨rfl, by simp, by simp, by simp [flat], cs, el, k5, ?_, by simp [flat]⟩
                    show l.o + off * es' + (l.tot - off) * es' ≤ cs.size
                    rw [Nat.sub_mul]
                    have : off * es' ≤ l.tot * es' := Nat.mul_le_mul_right _ (by omega)
                    omega
                · obtain ⟨hA1, hA2⟩ := hA hcap0
                  obtain ⟨news, n1, n2, n3, n4⟩ := hrb.first (P := P) cb
                  obtain ⟨cs, ce, g1, g2, g3⟩ := blk_stay ok off hoff hrb.hes hrb.hat n2 n4 (by omega)
                  have hq : l.o + off * es' + len * es' = l.o + xs'.length * es' := by rw [← hc1, Nat.add_mul]; omega
                  have hst := run_storeCells_at P l.b (l.o + xs'.length * es') ce news 0 cs w g1 (by simpa using g2) n3
                  simp only [Nat.add_zero] at hst
                  rw [← his] at n1
                  have hrun := run_append_stay P w t o.type e i hu hi l.b (l.o + off * es') len cap B ys.length cb news n1 hroom _ (by rw [his, hq]; exact hst)
                  refine ⟨_, _, E.loc nid ⟨l.b, l.o + off * es', es', l.tot - off⟩, ?_, hS.rename hg hl hn hlt rfl (fun b hb => setRow_other w l.b b _ hb) g3,
                    .rename (k' := .arr es' (xs'.drop off ++ ys)) hg hl hn rfl rfl rfl rfl (by simp [World.setRow]) (fun b hb => setRow_other w l.b b _ hb),
                    .own nid 0 _ (some ⟨l.b, l.o + off * es', none⟩) cap ⟨l.b, l.o + off * es', es', l.tot - off⟩ (by simp [Env.loc]) hroom (fun _ => ⟨by simp, by show 0 + cap ≤ l.tot - off; omega⟩), fun hpu => by simp [pureOp, hop] at hpu, fun j hj ej => by simp [Env.loc, updF, hj, ej]⟩
                  rw [hA1, hes] at hev
                  simp [execOp, hop, resolve, invoke, builtin, hev, eb, hrun]
              · -- it grows
                have hra : Reads E w es' (xs'.drop off) A := by
                  have hlx : (xs'.drop off).length = len := by simp; omega
                  by_cases hcap0 : cap = 0
                  · have : xs'.drop off = [] := by rw [List.drop_eq_nil_iff]; omega
                    rw [this]; exact .nil _ _ _ _
                  · obtain ⟨hA1, hA2⟩ := hA hcap0
                    have := ok.reads off len (by omega)
                    rw [List.take_of_length_le (by omega)] at this
                    rw [hA1, hes]; exact this
                have hlx : (xs'.drop off).length = len := by simp; omega
                obtain ⟨olds, o1, o2, o3, o4⟩ := hra.drew.first (P := P) cap
                obtain ⟨news, n1, n2, n3, n4⟩ := hrb.drew.first (P := P) cb
                rw [← his] at o1 n1
                rw [hlx] at o1
                have hrun := run_append_new P w t o.type e i z hu hi hz A len cap olds o1 B ys.length cb news n1 (by omega) (appOk_63 hc2) (appOk_fit hc2 (by omega))
                have hgc := grownCap_ge w (len + ys.length) cap e
                have hb := blk_grown (E := E) (w := w.drew) e hra.hes hra.hat hrb.hes hrb.hat o2 n2 hzs o4 n4 (by rw [hlx]; exact hgc)
                rw [hlx] at hb
                have hdrop : Sim E (S.set id none) w.drew := hS.drew.drop _ (upd_none S id) _ (Nat.le_refl _)
                have hdropE : Evo E S w.drew E (S.set id none) w.drew := .drop _ (upd_none S id) _
                refine ⟨_, _, E.loc nid ⟨w.heap.size, 0, es', grownCap w (len + ys.length) cap e⟩, ?_, hdrop.alloc hn hlt _ _ rfl _ hb, ((Evo.drew E S w).trans hdropE).trans (.alloc hn _ _ rfl _),
                  .own nid 0 _ (some ⟨w.heap.size, 0, none⟩) (grownCap w (len + ys.length) cap e) ⟨w.heap.size, 0, es', grownCap w (len + ys.length) cap e⟩ (by simp [Env.loc]) hgc (fun _ => ⟨by simp, by simp⟩), fun hpu => by simp [pureOp, hop] at hpu, fun j hj ej => by simp [Env.loc, updF, hj, ej]⟩
                simp [execOp, hop, resolve, invoke, builtin, hev, eb, hrun]
  · simp at h
end
end Go.Rf

