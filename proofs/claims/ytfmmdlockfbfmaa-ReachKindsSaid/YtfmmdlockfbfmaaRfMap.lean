import Derived.Test.YtfmmdlockfbfmaaRfOps7
import Derived.MapKept
set_option linter.unusedVariables false
set_option linter.unusedSimpArgs false
namespace Go.Rf
open Go.RowKit

/-! ### maps whose keys are whole numbers or texts -/
inductive KK where
  | int (k : IntKind)
  | str
def KK.desc : KK → TypeDesc
  | .int k => .int k
  | .str => .string
def isK : KK → AV → Bool
  | .int k, .v (.int k' _) => decide (k = k')
  | .str, .v (.string _) => true
  | _, _ => false
def keyEq : AV → AV → Bool
  | .v (.int _ a), .v (.int _ b) => a == b
  | .v (.string a), .v (.string b) => a == b
  | _, _ => false
def findE (k : AV) : List (AV × AV) → Option AV
  | [] => none
  | e :: es => if keyEq k e.1 = true then some e.2 else findE k es
def setE (k x : AV) : List (AV × AV) → List (AV × AV)
  | [] => [(k, x)]
  | e :: es => if keyEq k e.1 = true then (k, x) :: es else e :: setE k x es
def kkOf (P : Program) (t : TypeId) : Option KK :=
  match P.underlying t with
  | some (.int k) => some (.int k)
  | some .string => some .str
  | _ => none
theorem kkOf_inv {P : Program} {t : TypeId} {d : KK} (h : kkOf P t = some d) : P.underlying t = some d.desc := by
  unfold kkOf at h
  split at h
  · rename_i k hu; cases h; exact hu
  · rename_i hu; cases h; exact hu
  · cases h
def mapOf (P : Program) (t : TypeId) : Option (KK × AV) :=
  match P.underlying t with
  | some (.map kt et) => match kkOf P kt with
    | some d => (zeroOf P et).map fun p => (d, p.1)
    | none => none
  | _ => none
theorem mapOf_inv {P : Program} {t : TypeId} {d : KK} {z : AV} (h : mapOf P t = some (d, z)) : ∃ kt et m, P.underlying t = some (.map kt et) ∧ P.underlying kt = some d.desc ∧ zeroOf P et = some (z, m) := by
  unfold mapOf at h
  split at h
  · rename_i kt et hu
    split at h
    · rename_i d' hd
      simp only [Option.map_eq_some_iff, Prod.mk.injEq] at h
      obtain ⟨p, hp, rfl, rfl⟩ := h
      exact ⟨kt, et, p.2, hu, kkOf_inv hd, hp⟩
    · cases h
  · cases h
def exLook (d : KK) (z : AV) (ok : Bool) (m k : AV) : Eff :=
  match m with
  | .mp id => .rd id fun
    | .map ents => if isK d k = true ∧ ∀ e ∈ ents, isK d e.1 = true then
        some (match findE k ents with
          | some x => if ok = true then .tup [x, .v (.bool true)] else x
          | none => if ok = true then .tup [z, .v (.bool false)] else z)
        else none
    | _ => none
  | _ => .val none
def exMset (d : KK) (m k x : AV) : Eff :=
  match m with
  | .mp id => .wr id fun
    | .map ents => if isK d k = true ∧ ∀ e ∈ ents, isK d e.1 = true then some (.map (setE k x ents)) else none
    | _ => none
  | _ => .val none
def exMmk : Eff := .new (some (.map [], fun i => .mp i))
def exLenM (m : AV) : Eff :=
  match m with
  | .mp id => .rd id fun
    | .map ents => some (.v (.int .i64 ents.length))
    | _ => none
  | _ => .val none
theorem isK_rep {E : Env} {d : KK} {k : AV} {v : Value} (h : isK d k = true) (r : Rep E k v) : k = .v v ∧ MapKept.IsKey d.desc v := by
  unfold isK at h
  split at h
  · have e := r.v_inv; subst e; simp only [decide_eq_true_eq] at h; subst h; exact ⟨rfl, by simp [MapKept.IsKey, KK.desc]⟩
  · have e := r.v_inv; subst e; exact ⟨rfl, by simp [MapKept.IsKey, KK.desc]⟩
  · cases h
theorem sameNow_key {d : KK} {u v : Value} (h : isK d (.v u) = true) (k : isK d (.v v) = true) : Instr.sameNow d.desc u v = some (keyEq (.v u) (.v v)) := by
  cases d with
  | int i =>
    cases u <;> simp [isK] at h
    cases v <;> simp [isK] at k
    subst h; subst k
    simp [KK.desc, Instr.sameNow, keyEq]
  | str =>
    cases u <;> simp [isK] at h
    cases v <;> simp [isK] at k
    simp [KK.desc, Instr.sameNow, keyEq]
theorem find_ok {E : Env} {d : KK} {k : AV} {kv : Value} (hk : isK d k = true) (rk : Rep E k kv) (y : AV) : ∀ (ents : List (AV × AV)) (l : List MapEntry) (i : Nat), l.length = ents.length →
    (∀ j (h : j < ents.length), ∃ e, l[j]? = some e ∧ Rep E (ents[j].1) e.key ∧ Rep E (ents[j].2) e.val) → (∀ e ∈ ents, isK d e.1 = true) →
    (findE k ents = none ∧ Instr.findNow d.desc kv l i = some none ∧ setE k y ents = ents ++ [(k, y)]) ∨
    ∃ x j e, findE k ents = some x ∧ Instr.findNow d.desc kv l i = some (some (i + j, e.val)) ∧ l[j]? = some e ∧ Rep E x e.val ∧ setE k y ents = ents.set j (k, y) ∧ e.key = kv ∧ j < ents.length
  | [], l, i, hl, _, _ => by
    have : l = [] := by simpa using hl
    subst this
    exact .inl ⟨rfl, rfl, rfl⟩
  | p :: ents, l, i, hl, hr, ha => by
    cases l with
    | nil => simp at hl
    | cons e l =>
      obtain ⟨e', h1, h2, h3⟩ := hr 0 (by simp)
      simp only [List.getElem?_cons_zero, Option.some.injEq] at h1
      subst h1
      simp only [List.getElem_cons_zero] at h2 h3
      have hp := ha p (by simp)
      obtain ⟨q1, _⟩ := isK_rep hp h2
      obtain ⟨q2, _⟩ := isK_rep hk rk
      have hs : Instr.sameNow d.desc kv e.key = some (keyEq k p.1) := by
        rw [q1] at hp ⊢; rw [q2] at hk ⊢; exact sameNow_key hk hp
      cases hb : keyEq k p.1 with
      | true =>
        refine .inr ⟨p.2, 0, e, by simp [findE, hb], by simp [Instr.findNow, hs, hb], rfl, h3, by simp [setE, hb], ?_, by simp⟩
        rw [q1, q2] at hb
        rw [q1] at hp; rw [q2] at hk
        cases d with
        | int c =>
          generalize e.key = u at *
          cases u <;> simp [isK] at hp
          cases kv <;> simp [isK] at hk
          subst hp; subst hk
          simp only [keyEq, beq_iff_eq] at hb
          rw [hb]
        | str =>
          generalize e.key = u at *
          cases u <;> simp [isK] at hp
          cases kv <;> simp [isK] at hk
          simp only [keyEq] at hb
          rw [(MapKept.bytes_beq _ _).mp hb]
      | false =>
        rcases find_ok hk rk y ents l (i + 1) (by simpa using hl) (fun j hj => by
          obtain ⟨e2, a, b, c⟩ := hr (j + 1) (by simpa using hj)
          exact ⟨e2, by simpa using a, by simpa using b, by simpa using c⟩) (fun q hq => ha q (by simp [hq])) with ⟨g1, g2, g3⟩ | ⟨x, j, e2, g1, g2, g3, g4, g5, g6, g7⟩
        · exact .inl ⟨by simp [findE, hb, g1], by simp [Instr.findNow, hs, hb, g2], by simp [setE, hb, g3]⟩
        · exact .inr ⟨x, j + 1, e2, by simp [findE, hb, g1], by simp [Instr.findNow, hs, hb, g2]; omega, by simpa using g3, g4, by simp [setE, hb, g5], g6, by simpa using g7⟩
section
variable {P : Program} {n : Nat} {o : Oper} {a : AF} {S : St} {nid : Nat} {v : AV}

theorem ok_mmk {t : TypeId} {S' : St} (hd : ∀ d, o.dst = some d → d < n) (hop : o.op = .makeMap t none) (h : exMmk.run S nid = some (v, S')) : OpOk P n o a S nid v S' := by
  simp only [exMmk, Eff.run_new, Option.map_some, Option.some.injEq, Prod.mk.injEq] at h
  obtain ⟨rfl, rfl⟩ := h
  refine .of_run hd fun E w act hS hF hn hlt => ?_
  have hb : BlkOk E (w.alloc (.map #[] 0)) ⟨w.heap.size, 0, 0, 0⟩ (.map []) := ⟨#[], 0, heap_alloc_new w _, rfl, by simp⟩
  refine ⟨_, _, E.loc nid ⟨w.heap.size, 0, 0, 0⟩, by simp [execOp, hop, Instr.makeMap, newObj]; rfl, hS.alloc hn hlt _ _ rfl _ hb, .alloc hn _ _ rfl _, .mp nid ⟨w.heap.size, 0, 0, 0⟩ (by simp [Env.loc]), fun i hi e => ?_⟩
  simp [Env.loc, updF, hi, e]
theorem run_zero {t : TypeId} {i : TypeInfo} {z : Value} (h : P.info? t = some i) (hz : i.zero = some z) (w : World) : (zeroValue t).run P w = .ok z w := by
  simp [zeroValue, typeInfo, h, hz]
theorem ok_look {t : TypeId} {x k : Operand} {X K : Opd} {d : KK} {z : AV} {ok : Bool} {S' : St} (hd : ∀ d, o.dst = some d → d < n) (hop : o.op = .lookup t x k ok) (hx : ofOperand x = some X) (hk : ofOperand k = some K)
    (hm : mapOf P t = some (d, z)) (h : (exLook d z ok (X.ev a) (K.ev a)).run S nid = some (v, S')) : OpOk P n o a S nid v S' := by
  generalize hxe : X.ev a = xv at h
  generalize hke : K.ev a = kv at h
  unfold exLook at h
  split at h
  · rename_i id
    simp only [Eff.run_rd, Option.map_eq_some_iff, Prod.mk.injEq] at h
    obtain ⟨r, h1, rfl, rfl⟩ := h
    cases hg : S.g id with
    | none => rw [hg] at h1; simp at h1
    | some b =>
      rw [hg] at h1
      cases b with
      | arr es xs => simp at h1
      | map ents =>
        simp only [Option.bind_some] at h1
        split at h1
        · rename_i hc
          obtain ⟨c1, c2⟩ := hc
          obtain ⟨kt, et, m, u1, u2, u3⟩ := mapOf_inv hm
          refine .pure hd fun E w act hS hF => ?_
          have rx := ofOperand_ok hF hx
          have rk := ofOperand_ok hF hk
          rw [hxe] at rx
          rw [hke] at rk
          obtain ⟨i, zv, g1, g2, g3, g4, g5⟩ := zeroOf_rep (E := E) u3
          generalize hev : act.eval x = av at rx
          cases rx with
          | mp _ l hl =>
            obtain ⟨l', e, hN, es, clock, b1, b2, b3⟩ := hS.live id _ hg
            rw [hl] at e; cases e
            obtain ⟨_, hik⟩ := isK_rep c1 rk
            have hck := MapKept.run_checkKey (w := w) u2 hik es.isEmpty 9999
            have hfin : ∀ (a : Option (Nat × Value)), Instr.findNow d.desc (act.eval k) es.toList 0 = some a → (execOp act.eval o).run P w = .ok (.value (if ok = true then .tuple #[(a.map (·.2)).getD zv, .bool a.isSome] else (a.map (·.2)).getD zv)) w := by
              intro a ha
              have hf := MapKept.run_findKey (w := w) u2 ha
              simp only [execOp, hop, hev, Instr.lookup, Sem.run_bind, run_underlying u1, Result.andThen_ok, MapKept.run_getObj_map b1]
              simp only [Sem.run_pure, Result.andThen_ok, Sem.run_bind]
              rw [hck]
              simp only [Result.andThen_ok, Sem.run_bind]
              rw [hf]
              cases a with
              | none => simp [run_zero g1 g2]
              | some p => simp
            rcases find_ok c1 rk .junk ents es.toList 0 (by simpa using b2) (fun j hj => by
              obtain ⟨e, q1, q2⟩ := b3 j hj; exact ⟨e, by simpa using q1, q2⟩) c2 with ⟨f1, f2, f3⟩ | ⟨y, j, e, f1, f2, f3, f4, f5, f6, f7⟩
            · refine ⟨_, hfin _ f2, ?_⟩
              rw [f1] at h1
              simp only [Option.some.injEq] at h1
              subst h1
              cases ok with
              | true =>
                refine .tup _ _ rfl fun j hj => ?_
                rcases j with _ | _ | j
                · exact g5
                · exact .v _ rfl
                · simp at hj; omega
              | false => exact g5
            · refine ⟨_, hfin _ f2, ?_⟩
              rw [f1] at h1
              simp only [Option.some.injEq] at h1
              subst h1
              cases ok with
              | true =>
                refine .tup _ _ rfl fun j hj => ?_
                rcases j with _ | _ | j
                · exact f4
                · exact .v _ rfl
                · simp at hj; omega
              | false => exact f4
        · cases h1
  · simp at h
theorem ok_lenM {t : TypeId} {x : Operand} {X : Opd} {kt et : TypeId} {S' : St} (hd : ∀ d, o.dst = some d → d < n) (hop : o.op = .call { callee := .builtin .len, args := #[x], argTypes := #[t] }) (hx : ofOperand x = some X)
    (hu : P.underlying t = some (.map kt et)) (h : (exLenM (X.ev a)).run S nid = some (v, S')) : OpOk P n o a S nid v S' := by
  generalize hxe : X.ev a = xv at h
  unfold exLenM at h
  split at h
  · rename_i id
    simp only [Eff.run_rd, Option.map_eq_some_iff, Prod.mk.injEq] at h
    obtain ⟨r, h1, rfl, rfl⟩ := h
    cases hg : S.g id with
    | none => rw [hg] at h1; simp at h1
    | some b =>
      rw [hg] at h1
      cases b with
      | arr es xs => simp at h1
      | map ents =>
        simp only [Option.bind_some, Option.some.injEq] at h1
        subst h1
        refine .pure hd fun E w act hS hF => ?_
        have rx := ofOperand_ok hF hx
        rw [hxe] at rx
        generalize hev : act.eval x = av at rx
        cases rx with
        | mp _ l hl =>
          obtain ⟨l', e, hN, es, clock, b1, b2, b3⟩ := hS.live id _ hg
          rw [hl] at e; cases e
          refine ⟨.int .i64 ents.length, ?_, .v _ rfl⟩
          simp [execOp, hop, resolve, invoke, builtin, Builtin.len_, hev, run_underlying hu, goInt, MapKept.run_getObj_map b1, b2]
  · simp at h
theorem keyStays {k : Value} {d : KK} (h : MapKept.IsKey d.desc k) (w : World) : (Instr.keyThatStays k k).run P w = .ok k w := by
  unfold Instr.keyThatStays
  have : Instr.sameBits 10000 k k = true := by
    cases d <;> cases k <;> simp [KK.desc, MapKept.IsKey] at h <;> simp [Instr.sameBits, MapKept.bytes_beq]
  rw [if_pos this]; rfl
theorem ok_mset {t : TypeId} {m k x : Operand} {M K X : Opd} {d : KK} {z : AV} {S' : St} (hd : ∀ d, o.dst = some d → d < n) (hop : o.op = .mapUpdate t m k x ∨ o.op = .insert t m k x) (hmm : ofOperand m = some M) (hk : ofOperand k = some K) (hx : ofOperand x = some X)
    (hm : mapOf P t = some (d, z)) (h : (exMset d (M.ev a) (K.ev a) (X.ev a)).run S nid = some (v, S')) : v = .junk ∧ OpOk P n o a S nid .junk S' := by
  generalize hme : M.ev a = mv at h
  generalize hke : K.ev a = kv at h
  generalize hxe : X.ev a = xv at h
  unfold exMset at h
  split at h
  · rename_i id
    simp only [Eff.run_wr, Option.map_eq_some_iff, Prod.mk.injEq] at h
    obtain ⟨r, h1, rfl, rfl⟩ := h
    refine ⟨rfl, ?_⟩
    cases hg : S.g id with
    | none => rw [hg] at h1; simp at h1
    | some b =>
      rw [hg] at h1
      cases b with
      | arr es xs => simp at h1
      | map ents =>
        simp only [Option.bind_some] at h1
        split at h1
        · rename_i hc
          obtain ⟨c1, c2⟩ := hc
          simp only [Option.some.injEq] at h1
          subst h1
          obtain ⟨kt, et, _, u1, u2, u3⟩ := mapOf_inv hm
          refine .of_skip hd fun E w act hS hF _ _ => ?_
          have rm := ofOperand_ok hF hmm
          have rk := ofOperand_ok hF hk
          have rx := ofOperand_ok hF hx
          rw [hme] at rm
          rw [hke] at rk
          rw [hxe] at rx
          generalize hev : act.eval m = av at rm
          cases rm with
          | mp _ l hl =>
            obtain ⟨l', e, hN, es, clock, b1, b2, b3⟩ := hS.live id _ hg
            rw [hl] at e; cases e
            obtain ⟨_, hik⟩ := isK_rep c1 rk
            have hck := MapKept.run_checkKey (w := w) u2 hik false 9999
            have fin : ∀ (ob : Obj), (execOp act.eval o).run P w = .ok .skip { w with heap := w.heap.setIfInBounds l.b ob } → BlkOk E { w with heap := w.heap.setIfInBounds l.b ob } l (.map (setE kv xv ents)) →
                ∃ w' E', (execOp act.eval o).run P w = .ok .skip w' ∧ Sim E' (S.set id (some (.map (setE kv xv ents)))) w' ∧ Evo E S w E' (S.set id (some (.map (setE kv xv ents)))) w' ∧ ∀ i, i ≠ nid → E.ρ i = none → E'.ρ i = none := by
              intro ob h1 h2
              have hne : ∀ b, b ≠ l.b → ({ w with heap := w.heap.setIfInBounds l.b ob } : World).heap[b]? = w.heap[b]? := fun b hb => by simp [Ne.symm hb]
              exact ⟨_, E, h1, hS.write hg hl hne h2, .write hg hl rfl rfl rfl (by simp) hne, fun _ _ e => e⟩
            have hlt : l.b < w.heap.size := (Array.getElem?_eq_some_iff.mp b1).1
            rcases find_ok c1 rk xv ents es.toList 0 (by simpa using b2) (fun j hj => by
              obtain ⟨e, q1, q2⟩ := b3 j hj; exact ⟨e, by simpa using q1, q2⟩) c2 with ⟨f1, f2, f3⟩ | ⟨y, j, e, f1, f2, f3, f4, f5, f6, f7⟩
            · refine fin (.map (es.push { key := act.eval k, val := act.eval x, born := clock }) (clock + 1)) ?_ ?_
              · have hf := MapKept.run_findKey (w := w) u2 f2
                rcases hop with hop | hop <;>
                · simp only [execOp, hop, hev, Instr.mapUpdate, Sem.run_bind, run_underlying u1, Result.andThen_ok, MapKept.run_getObj_map b1, hck, hf, MapKept.run_setObj_map _ b1]
                  rfl
              · refine ⟨_, _, by simp [hlt]; exact ⟨rfl, rfl⟩, by simp [f3, b2], fun j hj => ?_⟩
                simp only [f3] at hj ⊢
                by_cases hjl : j < ents.length
                · obtain ⟨e, q1, q2, q3⟩ := b3 j hjl
                  refine ⟨e, by rw [Array.getElem?_push, if_neg (by omega)]; exact q1, ?_, ?_⟩
                  · rw [List.getElem_append_left hjl]; exact q2
                  · rw [List.getElem_append_left hjl]; exact q3
                · have : j = ents.length := by simp at hj; omega
                  subst this
                  refine ⟨⟨act.eval k, act.eval x, clock⟩, by rw [Array.getElem?_push, if_pos (by omega)], ?_, ?_⟩
                  · simp; exact rk
                  · simp; exact rx
            · simp only [Nat.zero_add] at f2
              refine fin (.map (es.modify j fun e => { e with key := act.eval k, val := act.eval x }) clock) ?_ ?_
              · have hf := MapKept.run_findKey (w := w) u2 f2
                have he : es[j]? = some e := by simpa using f3
                have hks : (Instr.keyThatStays (((es[j]?).map (·.key)).getD (act.eval k)) (act.eval k)).run P w = .ok (act.eval k) w := by
                  rw [he]; simp only [Option.map_some, Option.getD_some, f6]; exact keyStays hik w
                rcases hop with hop | hop <;>
                · simp only [execOp, hop, hev, Instr.mapUpdate, Sem.run_bind, run_underlying u1, Result.andThen_ok, MapKept.run_getObj_map b1, hck, hf, hks, MapKept.run_setObj_map _ b1]
                  rfl
              · refine ⟨_, _, by simp [hlt]; exact ⟨rfl, rfl⟩, by simp [f5, b2], fun i hi => ?_⟩
                simp only [f5, List.length_set] at hi ⊢
                obtain ⟨e2, q1, q2, q3⟩ := b3 i hi
                by_cases hij : j = i
                · subst hij
                  refine ⟨{ e2 with key := act.eval k, val := act.eval x }, by rw [Array.getElem?_modify, if_pos rfl, q1]; rfl, ?_, ?_⟩
                  · simp; exact rk
                  · simp; exact rx
                · refine ⟨e2, by rw [Array.getElem?_modify, if_neg hij]; exact q1, ?_, ?_⟩
                  · simp [hij]; exact q2
                  · simp [hij]; exact q3
        · cases h1
  · simp at h
end
end Go.Rf

