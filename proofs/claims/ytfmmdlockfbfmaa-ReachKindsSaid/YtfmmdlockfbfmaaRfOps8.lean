import Derived.Test.YtfmmdlockfbfmaaRfEq
import Derived.Lib.SliceRun
import Derived.Lib.AppendZeros
import Derived.Laws.Cover3
import Derived.Laws.Pointers
/- Own work: nil tests of pointers, capacities, clear and copy. -/
set_option linter.unusedVariables false
set_option linter.unusedSimpArgs false
namespace Go.Rf
open Go.RowKit

def exNil (x : AV) : Option AV :=
  match x with
  | .ptr id ix c => some (.ptr id ix c)
  | .eptr y c => some (.eptr y c)
  | .clo f a b => some (.clo f a b)
  | _ => none
def exCap (x : AV) : Option AV :=
  match x with
  | .sl true xs => some (.v (.int .i64 xs.length))
  | _ => none
def exClr (es : Nat) (z : AV) (x : AV) : Eff :=
  match x with
  | .sl t xs => .val (if xs.length = 0 then some .junk else none)
  | .own id off len => .wr id fun
    | .arr es' xs => if es' = es ∧ off + len ≤ xs.length ∧ z.cells.length = es then some (.arr es (xs.take off ++ List.replicate len z ++ xs.drop (off + len))) else none
    | _ => none
  | _ => .val none
def exCpy (es : Nat) (x y : AV) : Eff :=
  match x with
  | .sl _ xs => .val (if xs.length = 0 then none else none)
  | .own id off len => ⟨id :: y.oid, fun
    | .arr es' xs :: bs => (lstE es bs y).bind fun ys =>
        if es' = es ∧ off + len ≤ xs.length ∧ y.oid ≠ [id] then
          some ⟨fun _ => .junk, [some (.arr es (xs.take off ++ ys.take (min ys.length len) ++ xs.drop (off + min ys.length len)))], none⟩ else none
    | _ => none⟩
  | _ => .val none
/-- x is nil (or isn't): of an empty list nothing is known. -/
def exNilq (sl neg : Bool) (x : AV) : Option AV :=
  match sl, x with
  | true, .sl _ (_ :: _) => some (.v (.bool neg))
  | true, .own _ _ (_ + 1) => some (.v (.bool neg))
  | false, .v (.pointer none) => some (.v (.bool (!neg)))
  | false, .ptr _ _ _ => some (.v (.bool neg))
  | false, .eptr _ _ => some (.v (.bool neg))
  | _, _ => none
def isEmptyL : AV → Prop
  | .sl _ [] => True
  | .own _ _ 0 => True
  | _ => False
/-- An empty list, and so many zero elements behind. -/
def exAppz (es by_ : Nat) (z x n : AV) : Eff :=
  match x, n with
  | .sl true [], .v (.int _ m) => .new (if 0 < m ∧ m * by_ ≤ 140737488355328 ∧ m ≤ 140737488355328 ∧ 0 < es ∧ z.cells.length = es then some (.arr es (List.replicate m.toNat z), fun i => .own i 0 m.toNat) else none)
  | _, _ => .val none
def cnil (P : Program) (op : BinOp) (t : TypeId) (y : Operand) : Option (Bool × Bool) :=
  match op, y with
  | .eql, .const (.slice none 0 0) => match P.underlying t with | some (.slice _) => some (true, false) | _ => none
  | .neq, .const (.slice none 0 0) => match P.underlying t with | some (.slice _) => some (true, true) | _ => none
  | .eql, .const (.pointer none) => match P.underlying t with | some (.pointer _) => some (false, false) | _ => none
  | .neq, .const (.pointer none) => match P.underlying t with | some (.pointer _) => some (false, true) | _ => none
  | _, _ => none
/-- Part of a block is written over. -/
theorem blk_splice {E : Env} {w : World} {l : Loc} {es : Nat} {xs ys : List AV} {news : List Value} (h : BlkOk E w l (.arr es xs)) (off : Nat) (hoff : off + ys.length ≤ xs.length)
    (hy : ∀ x ∈ ys, x.cells.length = es) (hya : ∀ y ∈ flat ys, y.atom = true) (hn : news.length = ys.length * es)
    (hrn : ∀ k (hk : k < (flat ys).length), ∃ v, news[k]? = some v ∧ Rep E ((flat ys)[k]) v) :
    ∃ cs el, w.heap[l.b]? = some (.cells cs el (0, 0)) ∧ (l.o + off * es) + news.length ≤ cs.size ∧
      BlkOk E (w.setRow l.b (cs.toList.take (l.o + off * es) ++ news ++ cs.toList.drop (l.o + off * es + news.length)).toArray) l (.arr es (xs.take off ++ ys ++ xs.drop (off + ys.length))) := by
  obtain ⟨h1, h2, h3, h4, cs, el, h5, h6, h7⟩ := h
  have hlx := length_flat h3
  have hly := length_flat hy
  have hm : (off + ys.length) * es ≤ xs.length * es := Nat.mul_le_mul_right _ hoff
  have hm2 : xs.length * es ≤ l.tot * es := Nat.mul_le_mul_right _ h2
  rw [Nat.add_mul] at hm
  have hf : l.o + off * es + news.length ≤ cs.size := by omega
  have hes : l.es = es := h1
  have hcells : ∀ x ∈ xs.take off ++ ys ++ xs.drop (off + ys.length), x.cells.length = es := by
    intro x hx
    rcases List.mem_append.mp hx with hx | hx
    · rcases List.mem_append.mp hx with hx | hx
      · exact h3 x (List.mem_of_mem_take hx)
      · exact hy x hx
    · exact h3 x (List.mem_of_mem_drop hx)
  have hfl : flat (xs.take off ++ ys ++ xs.drop (off + ys.length)) = (flat xs).take (off * es) ++ flat ys ++ (flat xs).drop ((off + ys.length) * es) := by
    rw [flat_append, flat_append, flat_take h3, flat_drop h3]
  have hl1 : ((flat xs).take (off * es)).length = off * es := by rw [List.length_take]; omega
  refine ⟨cs, el, h5, hf, h1, ?_, hcells, ?_, _, el, setRow_heap w l.b cs _ el _ h5, ?_, ?_⟩
  · simp; omega
  · intro y hy'
    rw [hfl] at hy'
    rcases List.mem_append.mp hy' with hx | hx
    · rcases List.mem_append.mp hx with hx | hx
      · exact h4 y (List.mem_of_mem_take hx)
      · exact hya y hx
    · exact h4 y (List.mem_of_mem_drop hx)
  · rw [splice_size _ _ _ hf]; exact h6
  · intro k hk
    have hk2 : k < ((flat xs).take (off * es) ++ flat ys ++ (flat xs).drop ((off + ys.length) * es)).length := by rw [← hfl]; exact hk
    have hge : (flat (xs.take off ++ ys ++ xs.drop (off + ys.length)))[k] = ((flat xs).take (off * es) ++ flat ys ++ (flat xs).drop ((off + ys.length) * es))[k]'hk2 := by simp only [hfl]
    rw [hge]
    rw [splice_get _ _ _ hf]
    have hlen : k < (flat xs).length := by
      simp only [List.length_append, List.length_take, List.length_drop] at hk2
      have : (off + ys.length) * es = off * es + ys.length * es := Nat.add_mul _ _ _
      omega
    by_cases c1 : k < off * es
    · rw [if_neg (by omega)]
      obtain ⟨v, a, b⟩ := h7 k hlen
      refine ⟨v, a, ?_⟩
      rw [List.getElem_append_left (by simp only [List.length_append, hl1]; omega), List.getElem_append_left (by rw [hl1]; exact c1), List.getElem_take]; exact b
    · by_cases c2 : k < off * es + ys.length * es
      · rw [if_pos (by omega)]
        obtain ⟨v, a, b⟩ := hrn (k - off * es) (by omega)
        refine ⟨v, ?_, ?_⟩
        · rw [← a]; congr 1; omega
        · rw [List.getElem_append_left (by simp only [List.length_append, hl1]; omega), List.getElem_append_right (by rw [hl1]; omega)]
          simp only [hl1]; exact b
      · rw [if_neg (by omega)]
        obtain ⟨v, a, b⟩ := h7 k hlen
        refine ⟨v, a, ?_⟩
        rw [List.getElem_append_right (by simp only [List.length_append, hl1]; omega), List.getElem_drop]
        have e : (off + ys.length) * es + (k - ((flat xs).take (off * es) ++ flat ys).length) = k := by
          simp only [List.length_append, hl1]
          have : (off + ys.length) * es = off * es + ys.length * es := Nat.add_mul _ _ _
          omega
        simp only [e]; exact b
section
variable {P : Program} {n : Nat} {o : Oper} {a : AF} {S : St} {nid : Nat} {v : AV}

theorem ok_nilc {x : Operand} {X : Opd} (hd : ∀ d, o.dst = some d → d < n) (hop : o.op = .nilCheck x) (hx : ofOperand x = some X) (h : exNil (X.ev a) = some v) : OpOk P n o a S nid v S := by
  refine .pure hd fun E w act hS hF => ?_
  have rx := ofOperand_ok hF hx
  generalize X.ev a = p at rx h
  generalize hev : act.eval x = av at rx
  cases rx with
  | ptr id ix c l hl => simp [exNil] at h; subst h; exact ⟨_, by simp [execOp, hop, hev], .ptr _ _ _ l hl⟩
  | eptr y c b p cs f hb hat hc hr => simp [exNil] at h; subst h; exact ⟨_, by simp [execOp, hop, hev], .eptr y c b p cs f hb hat hc hr⟩
  | clo f first cap fv cv hn hm hf hc => simp [exNil] at h; subst h; exact ⟨_, by simp [execOp, hop, hev], .clo f first cap fv cv hn hm hf hc⟩
  | _ => simp [exNil] at h
theorem ok_cap {t : TypeId} {x : Operand} {X : Opd} {e : TypeId} (hd : ∀ d, o.dst = some d → d < n) (hop : o.op = .call { callee := .builtin .cap, args := #[x], argTypes := #[t] }) (hx : ofOperand x = some X)
    (hu : P.underlying t = some (.slice e)) (h : exCap (X.ev a) = some v) : OpOk P n o a S nid v S := by
  refine .pure hd fun E w act hS hF => ?_
  have rx := ofOperand_ok hF hx
  generalize X.ev a = p at rx h
  generalize hev : act.eval x = av at rx
  have run : ∀ A m c, av = .slice A m c → (execOp act.eval o).run P w = .ok (.value (.int .i64 c)) w := by
    intro A m c e
    subst e
    simp [execOp, hop, resolve, invoke, builtin, Builtin.cap_, hev, run_underlying hu, goInt]
  unfold exCap at h
  split at h
  · rename_i xs
    cases h
    cases rx with
    | sl0 t' A cap ht => have := ht rfl; subst this; exact ⟨_, run _ _ _ rfl, .v _ rfl⟩
    | sl t' xs b p cap cs es f hne hb hes hcap ht hat hc hr => have := ht rfl; subst this; exact ⟨_, run _ _ _ rfl, .v _ rfl⟩
  · cases h
theorem ok_clr {t : TypeId} {x : Operand} {X : Opd} {z : AV} {es by_ : Nat} {S' : St} (hd : ∀ d, o.dst = some d → d < n) (hop : o.op = .call { callee := .builtin .clear, args := #[x], argTypes := #[t] }) (hx : ofOperand x = some X)
    (ht : elemOf3 P t = some (z, es, by_)) (h : (exClr es z (X.ev a)).run S nid = some (v, S')) : OpOk P n o a S nid v S' := by
  obtain ⟨e, i, hu, hz, hi, hb⟩ := elemOf3_inv ht
  generalize hxe : X.ev a = p at h
  unfold exClr at h
  split at h
  · rename_i t' xs
    simp only [Eff.run_val, Option.map_eq_some_iff, Prod.mk.injEq] at h
    obtain ⟨v', h1, rfl, rfl⟩ := h
    split at h1
    · rename_i h0
      cases h1
      have h0 : xs = [] := List.eq_nil_of_length_eq_zero h0
      subst h0
      refine .pure hd fun E w act hS hF => ?_
      have rx := ofOperand_ok hF hx
      rw [hxe] at rx
      generalize hev : act.eval x = av at rx
      refine ⟨.tuple #[], ?_, .junk _⟩
      cases rx with
      | sl0 t' A cap ht => cases A <;> simp [execOp, hop, resolve, invoke, builtin, Builtin.clear_, hev, run_underlying hu]
      | sl t' xs b p cap cs es f hne hb hes hcap ht hat hc hr => simp at hne
    · cases h1
  · rename_i id off len
    simp only [Eff.run_wr, Option.map_eq_some_iff, Prod.mk.injEq] at h
    obtain ⟨b', h1, h2, rfl⟩ := h
    subst h2
    cases hg : S.g id with
    | none => rw [hg] at h1; simp at h1
    | some bk =>
      rw [hg] at h1
      cases bk with
      | map e => simp at h1
      | arr es' xs =>
        simp only [Option.bind_some] at h1
        split at h1
        · rename_i hc
          obtain ⟨rfl, hc1, hc2⟩ := hc
          cases h1
          refine .of_run hd fun E w act hS hF hn hlt => ?_
          have rx := ofOperand_ok hF hx
          rw [hxe] at rx
          obtain ⟨i', zv, g1, g2, g3, g4, g5⟩ := zeroOf_rep (E := E) hz
          rw [hi] at g1; cases g1
          generalize hev : act.eval x = av at rx
          cases rx with
          | own _ _ _ A cap l hl hlen hA =>
            obtain ⟨l', el, hN, ok⟩ := hS.live id _ hg
            rw [hl] at el; cases el
            have hes : l.es = es' := ok.1
            have hrepl : ∀ x ∈ List.replicate len z, x.cells.length = es' := by intro x hx; rw [(List.mem_replicate.mp hx).2]; exact hc2
            have hat : ∀ y ∈ flat (List.replicate len z), y.atom = true := by
              intro y hy
              obtain ⟨x, hx, hyx⟩ := List.mem_flatMap.mp hy
              rw [(List.mem_replicate.mp hx).2] at hyx
              exact g4.2.1 y hyx
            by_cases h0 : len = 0
            · subst h0
              refine ⟨.tuple #[], w, E, ?_, ?_, ?_, .junk _, fun _ _ e => e⟩
              · cases A <;> simp [execOp, hop, resolve, invoke, builtin, Builtin.clear_, hev, run_underlying hu]
              · have : (S.set id (some (.arr es' (xs.take off ++ List.replicate 0 z ++ xs.drop (off + 0))))) = S := by
                  cases S with
                  | mk n g =>
                    simp only [St.set, List.replicate_zero, List.append_nil, Nat.add_zero, List.take_append_drop]
                    congr 1
                    funext j
                    simp only [updF]
                    split
                    · rename_i e; rw [e]; exact hg.symm
                    · rfl
                rw [this]; exact hS
              · have : (S.set id (some (.arr es' (xs.take off ++ List.replicate 0 z ++ xs.drop (off + 0))))) = S := by
                  cases S with
                  | mk n g =>
                    simp only [St.set, List.replicate_zero, List.append_nil, Nat.add_zero, List.take_append_drop]
                    congr 1
                    funext j
                    simp only [updF]
                    split
                    · rename_i e; rw [e]; exact hg.symm
                    · rfl
                rw [this]; exact .refl _ _ _
            · obtain ⟨hA1, hA2⟩ := hA (by omega)
              let news := (Builtin.zeroCells zv.cells len).toList
              have hnl : news.length = (List.replicate len z).length * es' := by
                simp [news, size_zeroCells, g4.1, hc2]
              have hrn : ∀ k (hk : k < (flat (List.replicate len z)).length), ∃ v, news[k]? = some v ∧ Rep E ((flat (List.replicate len z))[k]) v := by
                intro k hk
                obtain ⟨v, a1, a2⟩ := repL_made g4 hc2 len len (Nat.le_refl _) k hk
                refine ⟨v, ?_, a2⟩
                have hsz : zv.cells.size = es' := by rw [g4.1, hc2]
                rw [hsz] at a1
                simp only [news]
                rw [Array.getElem?_toList, Builtin.zeroCells, hsz]
                exact a1
              obtain ⟨cs, ce, k1, k2, k3⟩ := blk_splice ok off (by simpa using hc1) hrepl hat hnl hrn
              simp only [List.length_replicate] at k3
              have hone := mem_flat_atoms_news hat (es := es') (by rw [length_flat hrepl]; omega) hrn
              have hst := run_storeCells_at P l.b (l.o + off * es') ce news 0 cs w k1 (by simpa using k2) hone
              simp only [Nat.add_zero] at hst
              refine ⟨.tuple #[], _, E, ?_, hS.write hg hl (fun b hb => setRow_other w l.b b _ hb) k3, .write hg hl rfl rfl rfl (by simp [World.setRow]) (fun b hb => setRow_other w l.b b _ hb), .junk _, fun _ _ e => e⟩
              rw [hA1, hes] at hev
              obtain ⟨m, rfl⟩ : ∃ m, len = m + 1 := ⟨len - 1, by omega⟩
              simp [execOp, hop, resolve, invoke, builtin, Builtin.clear_, hev, run_underlying hu, zeroValue, typeInfo, hi, g2, news, hst]
        · cases h1
  · simp at h
theorem run_nilS {op : BinOp} {t t2 : TypeId} {x y : Operand} {neg : Bool} (hop : o.op = .binOp op t x y t2) (hc : cnil P op t y = some (true, neg)) {act : Act} {A : Option Addr} {m c : Nat} (e : act.eval x = .slice A m c) (w : World) :
    (execOp act.eval o).run P w = .ok (.value (.bool (A.isNone != neg))) w := by
  unfold cnil at hc
  split at hc <;> (try split at hc) <;> (try cases hc)
  all_goals rename_i hu
  · simp only [execOp, hop, e, eqGuard_at_slice]
    simp [Act.eval, Lib.run_eql_slice_nil w t _ A m c 0 0 hu]
  · simp only [execOp, hop, e, eqGuard_at_slice]
    simp [Act.eval, run_neq_slice_nil w t _ A m c hu]
theorem run_nilP {op : BinOp} {t t2 : TypeId} {x y : Operand} {neg : Bool} (hop : o.op = .binOp op t x y t2) (hc : cnil P op t y = some (false, neg)) {act : Act} {p : Option Addr} (e : act.eval x = .pointer p) (w : World) :
    (execOp act.eval o).run P w = .ok (.value (.bool (p.isNone != neg))) w := by
  unfold cnil at hc
  split at hc <;> (try split at hc) <;> (try cases hc)
  all_goals rename_i hu
  · have he2 : P.underlying t = some (.pointer (P.pointee t)) := by rw [hu]; simp [Program.pointee, hu]
    simp only [execOp, hop, e, eqGuard_at_pointer]
    simp [Act.eval, run_eql_pointer_nil w t p he2]
  · have he2 : P.underlying t = some (.pointer (P.pointee t)) := by rw [hu]; simp [Program.pointee, hu]
    simp only [execOp, hop, e, eqGuard_at_pointer]
    simp [Act.eval, run_neq_pointer_nil w t p he2]
theorem ok_nilq {op : BinOp} {t t2 : TypeId} {x y : Operand} {sl neg : Bool} {X : Opd} (hd : ∀ d, o.dst = some d → d < n) (hop : o.op = .binOp op t x y t2) (hc : cnil P op t y = some (sl, neg)) (hx : ofOperand x = some X) (h : exNilq sl neg (X.ev a) = some v) : OpOk P n o a S nid v S := by
  refine .pure hd fun E w act hS hF => ?_
  have rx := ofOperand_ok hF hx
  generalize X.ev a = p at rx h
  generalize hev : act.eval x = av at rx
  cases sl with
  | true =>
    cases rx with
    | sl t' xs b p cap cs es f hne hb hes hcap ht hat hcc hr =>
      cases xs with
      | nil => simp at hne
      | cons y ys => simp [exNilq] at h; subst h; exact ⟨_, run_nilS hop hc hev w, by simpa using .v _ rfl⟩
    | own id off len A cap l hl hlen hA =>
      cases len with
      | zero => simp [exNilq] at h
      | succ m =>
        simp [exNilq] at h; subst h
        obtain ⟨hA1, _⟩ := hA (by omega)
        subst hA1
        exact ⟨_, run_nilS hop hc hev w, by simpa using .v _ rfl⟩
    | sl0 t A cap ht => simp [exNilq] at h
    | _ => simp [exNilq] at h
  | false =>
    cases rx with
    | ptr id ix c l hl => simp [exNilq] at h; subst h; exact ⟨_, run_nilP hop hc hev w, by simpa using .v _ rfl⟩
    | eptr y c b p cs f hb hat hcc hr => simp [exNilq] at h; subst h; exact ⟨_, run_nilP hop hc hev w, by simpa using .v _ rfl⟩
    | v _ hs =>
      cases av with
      | pointer p =>
        cases p with
        | none => simp [exNilq] at h; subst h; exact ⟨_, run_nilP hop hc hev w, by simpa using .v _ rfl⟩
        | some q => simp [scalar] at hs
      | _ => simp [exNilq] at h
    | _ => simp [exNilq] at h
/-- An empty list is nil, or isn't. -/
theorem run_nilE {op : BinOp} {t t2 : TypeId} {x y : Operand} {neg : Bool} {X : Opd} (hop : o.op = .binOp op t x y t2) (hc : cnil P op t y = some (true, neg)) (hx : ofOperand x = some X) (h : isEmptyL (X.ev a)) {E : Env} {act : Act} (hF : RepF E n a act) (w : World) :
    ∃ b, (execOp act.eval o).run P w = .ok (.value (.bool b)) w := by
  have rx := ofOperand_ok hF hx
  generalize X.ev a = p at rx h
  generalize hev : act.eval x = av at rx
  cases rx with
  | sl0 t A cap ht => exact ⟨_, run_nilS hop hc hev w⟩
  | own id off len A cap l hl hlen hA => exact ⟨_, run_nilS hop hc hev w⟩
  | sl t' xs b p cap cs es f hne hb hes hcap ht hat hcc hr => exact ⟨_, run_nilS hop hc hev w⟩
  | _ => exact h.elim
theorem ok_appz {t u : TypeId} {x y : Operand} {X Y : Opd} {z : AV} {es by_ : Nat} {kn : IntKind} {S' : St} (hd : ∀ d, o.dst = some d → d < n) (hop : o.op = .call { callee := .builtin .append, args := #[x, y], argTypes := #[t, u] })
    (hx : ofOperand x = some X) (hy : ofOperand y = some Y) (ht : elemOf3 P t = some (z, es, by_)) (hu : P.underlying u = some (.int kn)) (h : (exAppz es by_ z (X.ev a) (Y.ev a)).run S nid = some (v, S')) : OpOk P n o a S nid v S' := by
  obtain ⟨e, i, hut, hz, hi, hb⟩ := elemOf3_inv ht
  generalize hxe : X.ev a = p at h
  generalize hye : Y.ev a = q at h
  unfold exAppz at h
  split at h
  · rename_i k m
    simp only [Eff.run_new, Option.map_eq_some_iff, Prod.mk.injEq] at h
    obtain ⟨p, h1, rfl, rfl⟩ := h
    split at h1
    · rename_i hcond
      obtain ⟨c1, c2, c3, c4, c5⟩ := hcond
      cases h1
      have hrepl : ∀ x ∈ List.replicate m.toNat z, x.cells.length = es := by intro x hx; rw [(List.mem_replicate.mp hx).2]; exact c5
      refine OpOk.alloc (f := fun i => .own i 0 m.toNat) hd hrepl fun E w act hS hF => ?_
      have rx := ofOperand_ok hF hx
      have ry := ofOperand_ok hF hy
      rw [hxe] at rx
      rw [hye] at ry
      have ey := ry.v_inv
      obtain ⟨i', zv, g1, g2, g3, g4, g5⟩ := zeroOf_rep (E := E) hz
      rw [hi] at g1; cases g1
      generalize hev : act.eval x = av at rx
      cases rx with
      | sl _ xs b p cap cs es f hne hb hes hcap ht hat hcc hr => simp at hne
      | sl0 _ A cap ht0 =>
        have := ht0 rfl
        subst this
        obtain ⟨k0, rfl⟩ : ∃ k0 : Nat, m = (k0 : Int) := ⟨m.toNat, by omega⟩
        simp only [Int.toNat_natCast] at *
        have hk0 : 0 < k0 := by omega
        have hw : IntKind.i64.wrap (k0 : Int) = k0 := by rw [IntKind.wrap_i64]; omega
        have hn0 : k0 ≠ 0 := by omega
        have h63' : ¬ (9223372036854775807 < (k0 : Int)) := by omega
        have h48n : k0 * i.bytes ≤ 140737488355328 := by
          rw [hb]
          have h9 : ((k0 * by_ : Nat) : Int) ≤ 140737488355328 := by rw [Int.natCast_mul]; exact c2
          exact Int.ofNat_le.mp h9
        have h48' : ¬ (281474976710656 < Builtin.nextslicecap k0 0 * i.bytes) := by rw [nextslicecap_zero hk0]; omega
        have h48i : ¬ (281474976710656 < (k0 : Int) * (i.bytes : Int)) := by
          rw [← Int.natCast_mul]; omega
        have hneg : ¬ ((k0 : Int) < 0) := by omega
        have hns : ¬ (k0 * i.size = 0) := Nat.mul_ne_zero hn0 (by omega)
        have hgc : k0 ≤ grownCap w k0 0 e := by simpa using grownCap_ge w k0 0 e
        have hrun : (Builtin.append_ #[t, u] o.type #[.slice A 0 0, .int k k0]).run P w =
            .ok (.slice (some ⟨w.heap.size, 0, none⟩) k0 (grownCap w k0 0 e)) (w.drew.alloc (.cells (Builtin.zeroCells zv.cells k0 ++ Builtin.zeroCells zv.cells (grownCap w k0 0 e - k0)) e)) := by
          have hf : ∀ w, (Builtin.firstCells i.size 0 (.slice A 0 0)).run P w = .ok #[] w := by
            intro w
            cases A <;> simp [Builtin.firstCells, loadCells, loadCellsFrom]
          simp [Builtin.append_, run_underlying hut, run_underlying hu, sizeOf, typeInfo, zeroValue, hi, g2, asInt, asIntOf, hw, hn0, hneg, hns, h63', h48', h48i, Question.forced, hf, newRow, grownCap]
        refine ⟨.slice (some ⟨w.heap.size, 0, none⟩) k0 (grownCap w k0 0 e), Builtin.zeroCells zv.cells k0 ++ Builtin.zeroCells zv.cells (grownCap w k0 0 e - k0), e, grownCap w k0 0 e, w.drew, rfl, hS.drew, .drew _ _ _, by simp [execOp, hop, resolve, invoke, builtin, hev, ey, hrun], ?_, by simpa using hgc, ?_, ?_, ?_⟩
        · intro y hy
          obtain ⟨x, hx, hyx⟩ := List.mem_flatMap.mp hy
          rw [(List.mem_replicate.mp hx).2] at hyx
          exact g4.2.1 y hyx
        · have hsz : zv.cells.size = es := by rw [g4.1, c5]
          simp only [Array.size_append, size_zeroCells, hsz]
          rw [← Nat.add_mul]
          exact Nat.mul_le_mul_right _ (by omega)
        · intro j hj
          have hsz : zv.cells.size = es := by rw [g4.1, c5]
          obtain ⟨u, a1, a2⟩ := repL_made g4 c5 k0 k0 (Nat.le_refl _) j hj
          refine ⟨u, ?_, a2⟩
          have hjl : j < (Builtin.zeroCells zv.cells k0).size := by
            rw [size_zeroCells, hsz]
            rw [length_flat hrepl] at hj
            simpa using hj
          rw [Array.getElem?_append_left hjl, Builtin.zeroCells]
          rw [hsz] at a1 ⊢; exact a1
        · intro E' he
          exact .own nid 0 _ (some ⟨w.heap.size, 0, none⟩) (grownCap w k0 0 e) _ he hgc (fun _ => ⟨by simp, by simp⟩)
    · cases h1
  · simp at h
theorem Reads.take {E : Env} {w : World} {es : Nat} {ys : List AV} {A : Option Addr} (h : Reads E w es ys A) (n : Nat) : Reads E w es (ys.take n) A := by
  refine ⟨fun x hx => h.hes x (List.mem_of_mem_take hx), fun y hy => by rw [flat_take h.hes] at hy; exact h.hat y (List.mem_of_mem_take hy), fun hne => ?_⟩
  obtain ⟨b, p, cs, el, fz, h1, h2, h3⟩ := h.at_ (by rintro rfl; simp at hne)
  refine ⟨b, p, cs, el, fz, h1, h2, fun k hk => ?_⟩
  have hk2 : k < ((flat ys).take (n * es)).length := by rw [← flat_take h.hes]; exact hk
  simp only [List.length_take] at hk2
  obtain ⟨u, a1, a2⟩ := h3 k (by omega)
  refine ⟨u, a1, ?_⟩
  have : (flat (ys.take n))[k] = (flat ys)[k]'(by omega) := by simp only [flat_take h.hes, List.getElem_take]
  rw [this]; exact a2
theorem set_same {S : St} {id : Nat} {b : Blk} (hg : S.g id = some b) : S.set id (some b) = S := by
  cases S with
  | mk n g =>
    simp only [St.set]
    congr 1
    funext j
    simp only [updF]
    split
    · rename_i e; rw [e]; exact hg.symm
    · rfl
theorem ok_cpy {t u : TypeId} {x y : Operand} {X Y : Opd} {z : AV} {es by_ : Nat} {S' : St} (hd : ∀ d, o.dst = some d → d < n) (hop : o.op = .call { callee := .builtin .copy, args := #[x, y], argTypes := #[t, u] }) (hx : ofOperand x = some X)
    (hy : ofOperand y = some Y) (ht : elemOf3 P t = some (z, es, by_)) (h : (exCpy es (X.ev a) (Y.ev a)).run S nid = some (v, S')) : OpOk P n o a S nid v S' := by
  obtain ⟨e, i, hu, hz, hi, hb⟩ := elemOf3_inv ht
  generalize hxe : X.ev a = p at h
  generalize hye : Y.ev a = q at h
  unfold exCpy at h
  split at h
  · rename_i t' xs
    simp only [Eff.run_val, Option.map_eq_some_iff, Prod.mk.injEq] at h
    obtain ⟨v', h1, rfl, rfl⟩ := h
    split at h1 <;> cases h1
  · rename_i id off len
    simp only [Eff.run] at h
    split at h
    · cases h
    · rename_i bs0 hbs0
      simp only [List.mapM_cons, Option.bind_eq_bind, Option.bind_eq_some_iff, Option.pure_def, Option.some.injEq] at hbs0
      obtain ⟨b0, hg, bs, hbs, rfl⟩ := hbs0
      cases b0 with
      | map e => simp at h
      | arr es' xs =>
        simp only at h
        cases hle : lstE es bs q with
        | none => rw [hle] at h; simp at h
        | some ys =>
          rw [hle] at h
          simp only [Option.bind_some] at h
          split at h
          · cases h
          · rename_i out hout
            split at hout
            · rename_i hc
              obtain ⟨rfl, hc1, hc2⟩ := hc
              cases hout
              have hS0 : ∀ b, (S.setL (id :: q.oid) [some b]) = S.set id (some b) := by intro b; cases q.oid <;> rfl
              simp only [hS0, St.setO, Option.some.injEq, Prod.mk.injEq] at h
              obtain ⟨rfl, rfl⟩ := h
              refine .of_run hd fun E w act hS hF hn hlt => ?_
              have rx := ofOperand_ok hF hx
              have ry := ofOperand_ok hF hy
              rw [hxe] at rx
              rw [hye] at ry
              obtain ⟨B, cb, eb, hrb⟩ := lstE_reads hS ry hbs hle
              obtain ⟨i', zv, g1, g2, g3, g4, g5⟩ := zeroOf_rep (E := E) hz
              rw [hi] at g1; cases g1
              obtain ⟨news, n1, n2, n3, n4⟩ := (hrb.take (min ys.length len)).first (P := P) cb
              have htl : (ys.take (min ys.length len)).length = min ys.length len := by simp
              have hfc : (Builtin.firstCells es' (min ys.length len) (.slice B ys.length cb)).run P w = .ok news.toArray w := by
                rw [htl] at n1
                cases B <;> exact n1
              generalize hev : act.eval x = av at rx
              cases rx with
              | own _ _ _ A cap l hl hlen hA =>
                obtain ⟨l', el, hN, ok⟩ := hS.live id _ hg
                rw [hl] at el; cases el
                have hes : l.es = es' := ok.1
                have hmin : Nat.min ys.length len = min ys.length len := rfl
                by_cases h0 : len = 0
                · subst h0
                  have hn0 : news = [] := List.eq_nil_of_length_eq_zero (by rw [n2]; simp)
                  have hsame : (S.set id (some (.arr es' (xs.take off ++ ys.take (min ys.length 0) ++ xs.drop (off + min ys.length 0))))) = S := by
                    refine set_same ?_
                    rw [hg]; simp
                  refine ⟨.int .i64 0, w, E, ?_, by rw [hsame]; exact hS, by rw [hsame]; exact .refl _ _ _, .junk _, fun _ _ e => e⟩
                  subst hn0
                  simp only [Nat.min_zero] at hfc hmin
                  cases A <;> simp [execOp, hop, resolve, invoke, builtin, Builtin.copy_, hev, eb, run_underlying hu, Builtin.lenOf, run_sizeOf hi, hmin, g3, hfc, storeCells, goInt]
                · obtain ⟨hA1, hA2⟩ := hA (by omega)
                  obtain ⟨cs, ce, k1, k2, k3⟩ := blk_splice ok off (ys := ys.take (min ys.length len)) (by omega) (hrb.take _).hes (hrb.take _).hat n2 n4
                  rw [htl] at k3
                  have hst := run_storeCells_at P l.b (l.o + off * es') ce news 0 cs w k1 (by simpa using k2) n3
                  simp only [Nat.add_zero] at hst
                  refine ⟨.int .i64 (min ys.length len : Nat), _, E, ?_, hS.write hg hl (fun b hb => setRow_other w l.b b _ hb) k3, .write hg hl rfl rfl rfl (by simp [World.setRow]) (fun b hb => setRow_other w l.b b _ hb), .junk _, fun _ _ e => e⟩
                  rw [hA1, hes] at hev
                  simp [execOp, hop, resolve, invoke, builtin, Builtin.copy_, hev, eb, run_underlying hu, Builtin.lenOf, run_sizeOf hi, hmin, g3, hfc, goInt, hst]
            · cases hout
  · simp at h
end
end Go.Rf

