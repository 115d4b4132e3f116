import Derived.Test.YtidkjfaeolfcaaaGreatRfOps7
import Derived.MapKept
import Derived.Laws.StructEq
import Derived.ChangeKeysEq
import Derived.Lib.SliceRun
import Derived.Lib.AppendZeros
import Derived.Laws.Cover3
import Derived.Laws.Pointers
set_option linter.unusedVariables false
set_option linter.unusedSimpArgs false
namespace Go.Rf
open Go.RowKit

/-! ### maps whose keys are whole numbers or texts -/
inductive KK where
  | int (k : IntKind)
  | str
def KK.desc : KK → TypeDesc
  | .int k => .int k
  | .str => .string
def isK : KK → AV → Bool
  | .int k, .v (.int k' _) => decide (k = k')
  | .str, .v (.string _) => true
  | _, _ => false
def keyEq : AV → AV → Bool
  | .v (.int _ a), .v (.int _ b) => a == b
  | .v (.string a), .v (.string b) => a == b
  | _, _ => false
def findE (k : AV) : List (AV × AV) → Option AV
  | [] => none
  | e :: es => if keyEq k e.1 = true then some e.2 else findE k es
def setE (k x : AV) : List (AV × AV) → List (AV × AV)
  | [] => [(k, x)]
  | e :: es => if keyEq k e.1 = true then (k, x) :: es else e :: setE k x es
def kkOf (P : Program) (t : TypeId) : Option KK :=
  match P.underlying t with
  | some (.int k) => some (.int k)
  | some .string => some .str
  | _ => none
theorem kkOf_inv {P : Program} {t : TypeId} {d : KK} (h : kkOf P t = some d) : P.underlying t = some d.desc := by
  unfold kkOf at h
  split at h
  · rename_i k hu; cases h; exact hu
  · rename_i hu; cases h; exact hu
  · cases h
def mapOf (P : Program) (t : TypeId) : Option (KK × AV) :=
  match P.underlying t with
  | some (.map kt et) => match kkOf P kt with
    | some d => (zeroOf P et).map fun p => (d, p.1)
    | none => none
  | _ => none
theorem mapOf_inv {P : Program} {t : TypeId} {d : KK} {z : AV} (h : mapOf P t = some (d, z)) : ∃ kt et m, P.underlying t = some (.map kt et) ∧ P.underlying kt = some d.desc ∧ zeroOf P et = some (z, m) := by
  unfold mapOf at h
  split at h
  · rename_i kt et hu
    split at h
    · rename_i d' hd
      simp only [Option.map_eq_some_iff, Prod.mk.injEq] at h
      obtain ⟨p, hp, rfl, rfl⟩ := h
      exact ⟨kt, et, p.2, hu, kkOf_inv hd, hp⟩
    · cases h
  · cases h
def exLook (d : KK) (z : AV) (ok : Bool) (m k : AV) : Eff :=
  match m with
  | .mp id => .rd id fun
    | .map ents => if isK d k = true ∧ ∀ e ∈ ents, isK d e.1 = true then
        some (match findE k ents with
          | some x => if ok = true then .tup [x, .v (.bool true)] else x
          | none => if ok = true then .tup [z, .v (.bool false)] else z)
        else none
    | _ => none
  | _ => .val none
def exMset (d : KK) (m k x : AV) : Eff :=
  match m with
  | .mp id => .wr id fun
    | .map ents => if isK d k = true ∧ ∀ e ∈ ents, isK d e.1 = true then some (.map (setE k x ents)) else none
    | _ => none
  | _ => .val none
def exMmk : Eff := .new (some (.map [], fun i => .mp i))
def exLenM (m : AV) : Eff :=
  match m with
  | .mp id => .rd id fun
    | .map ents => some (.v (.int .i64 ents.length))
    | _ => none
  | _ => .val none
theorem isK_rep {E : Env} {d : KK} {k : AV} {v : Value} (h : isK d k = true) (r : Rep E k v) : k = .v v ∧ MapKept.IsKey d.desc v := by
  unfold isK at h
  split at h
  · have e := r.v_inv; subst e; simp only [decide_eq_true_eq] at h; subst h; exact ⟨rfl, by simp [MapKept.IsKey, KK.desc]⟩
  · have e := r.v_inv; subst e; exact ⟨rfl, by simp [MapKept.IsKey, KK.desc]⟩
  · cases h
theorem sameNow_key {d : KK} {u v : Value} (h : isK d (.v u) = true) (k : isK d (.v v) = true) : Instr.sameNow d.desc u v = some (keyEq (.v u) (.v v)) := by
  cases d with
  | int i =>
    cases u <;> simp [isK] at h
    cases v <;> simp [isK] at k
    subst h; subst k
    simp [KK.desc, Instr.sameNow, keyEq]
  | str =>
    cases u <;> simp [isK] at h
    cases v <;> simp [isK] at k
    simp [KK.desc, Instr.sameNow, keyEq]
theorem find_ok {E : Env} {d : KK} {k : AV} {kv : Value} (hk : isK d k = true) (rk : Rep E k kv) (y : AV) : ∀ (ents : List (AV × AV)) (l : List MapEntry) (i : Nat), l.length = ents.length →
    (∀ j (h : j < ents.length), ∃ e, l[j]? = some e ∧ Rep E (ents[j].1) e.key ∧ Rep E (ents[j].2) e.val) → (∀ e ∈ ents, isK d e.1 = true) →
    (findE k ents = none ∧ Instr.findNow d.desc kv l i = some none ∧ setE k y ents = ents ++ [(k, y)]) ∨
    ∃ x j e, findE k ents = some x ∧ Instr.findNow d.desc kv l i = some (some (i + j, e.val)) ∧ l[j]? = some e ∧ Rep E x e.val ∧ setE k y ents = ents.set j (k, y) ∧ e.key = kv ∧ j < ents.length
  | [], l, i, hl, _, _ => by
    have : l = [] := by simpa using hl
    subst this
    exact .inl ⟨rfl, rfl, rfl⟩
  | p :: ents, l, i, hl, hr, ha => by
    cases l with
    | nil => simp at hl
    | cons e l =>
      obtain ⟨e', h1, h2, h3⟩ := hr 0 (by simp)
      simp only [List.getElem?_cons_zero, Option.some.injEq] at h1
      subst h1
      simp only [List.getElem_cons_zero] at h2 h3
      have hp := ha p (by simp)
      obtain ⟨q1, _⟩ := isK_rep hp h2
      obtain ⟨q2, _⟩ := isK_rep hk rk
      have hs : Instr.sameNow d.desc kv e.key = some (keyEq k p.1) := by
        rw [q1] at hp ⊢; rw [q2] at hk ⊢; exact sameNow_key hk hp
      cases hb : keyEq k p.1 with
      | true =>
        refine .inr ⟨p.2, 0, e, by simp [findE, hb], by simp [Instr.findNow, hs, hb], rfl, h3, by simp [setE, hb], ?_, by simp⟩
        rw [q1, q2] at hb
        rw [q1] at hp; rw [q2] at hk
        cases d with
        | int c =>
          generalize e.key = u at *
          cases u <;> simp [isK] at hp
          cases kv <;> simp [isK] at hk
          subst hp; subst hk
          simp only [keyEq, beq_iff_eq] at hb
          rw [hb]
        | str =>
          generalize e.key = u at *
          cases u <;> simp [isK] at hp
          cases kv <;> simp [isK] at hk
          simp only [keyEq] at hb
          rw [(MapKept.bytes_beq _ _).mp hb]
      | false =>
        rcases find_ok hk rk y ents l (i + 1) (by simpa using hl) (fun j hj => by
          obtain ⟨e2, a, b, c⟩ := hr (j + 1) (by simpa using hj)
          exact ⟨e2, by simpa using a, by simpa using b, by simpa using c⟩) (fun q hq => ha q (by simp [hq])) with ⟨g1, g2, g3⟩ | ⟨x, j, e2, g1, g2, g3, g4, g5, g6, g7⟩
        · exact .inl ⟨by simp [findE, hb, g1], by simp [Instr.findNow, hs, hb, g2], by simp [setE, hb, g3]⟩
        · exact .inr ⟨x, j + 1, e2, by simp [findE, hb, g1], by simp [Instr.findNow, hs, hb, g2]; omega, by simpa using g3, g4, by simp [setE, hb, g5], g6, by simpa using g7⟩
section
variable {P : Program} {n : Nat} {o : Oper} {a : AF} {S : St} {nid : Nat} {v : AV}

theorem ok_mmk {t : TypeId} {S' : St} (hd : ∀ d, o.dst = some d → d < n) (hop : o.op = .makeMap t none) (h : exMmk.run S nid = some (v, S')) : OpOk P n o a S nid v S' := by
  simp only [exMmk, Eff.run_new, Option.map_some, Option.some.injEq, Prod.mk.injEq] at h
  obtain ⟨rfl, rfl⟩ := h
  refine .of_run hd fun E w act hS hF hn hlt => ?_
  have hb : BlkOk E (w.alloc (.map #[] 0)) ⟨w.heap.size, 0, 0, 0⟩ (.map []) := ⟨#[], 0, heap_alloc_new w _, rfl, by simp⟩
  refine ⟨_, _, E.loc nid ⟨w.heap.size, 0, 0, 0⟩, by simp [execOp, hop, Instr.makeMap, newObj]; rfl, hS.alloc hn hlt _ _ rfl _ hb, .alloc hn _ _ rfl _, .mp nid ⟨w.heap.size, 0, 0, 0⟩ (by simp [Env.loc]), fun hpu => by simp [pureOp, hop] at hpu, fun i hi e => ?_⟩
  simp [Env.loc, updF, hi, e]
theorem run_zero {t : TypeId} {i : TypeInfo} {z : Value} (h : P.info? t = some i) (hz : i.zero = some z) (w : World) : (zeroValue t).run P w = .ok z w := by
  simp [zeroValue, typeInfo, h, hz]
theorem ok_look {t : TypeId} {x k : Operand} {X K : Opd} {d : KK} {z : AV} {ok : Bool} {S' : St} (hd : ∀ d, o.dst = some d → d < n) (hop : o.op = .lookup t x k ok) (hx : ofOperand x = some X) (hk : ofOperand k = some K)
    (hm : mapOf P t = some (d, z)) (h : (exLook d z ok (X.ev a) (K.ev a)).run S nid = some (v, S')) : OpOk P n o a S nid v S' := by
  generalize hxe : X.ev a = xv at h
  generalize hke : K.ev a = kv at h
  unfold exLook at h
  split at h
  · rename_i id
    simp only [Eff.run_rd, Option.map_eq_some_iff, Prod.mk.injEq] at h
    obtain ⟨r, h1, rfl, rfl⟩ := h
    cases hg : S.g id with
    | none => rw [hg] at h1; simp at h1
    | some b =>
      rw [hg] at h1
      cases b with
      | arr es xs => simp at h1
      | map ents =>
        simp only [Option.bind_some] at h1
        split at h1
        · rename_i hc
          obtain ⟨c1, c2⟩ := hc
          obtain ⟨kt, et, m, u1, u2, u3⟩ := mapOf_inv hm
          refine .pure hd fun E w act hS hF => ?_
          have rx := ofOperand_ok hF hx
          have rk := ofOperand_ok hF hk
          rw [hxe] at rx
          rw [hke] at rk
          obtain ⟨i, zv, g1, g2, g3, g4, g5⟩ := zeroOf_rep (E := E) u3
          generalize hev : act.eval x = av at rx
          cases rx with
          | mp _ l hl =>
            obtain ⟨l', e, hN, es, clock, b1, b2, b3⟩ := hS.live id _ hg
            rw [hl] at e; cases e
            obtain ⟨_, hik⟩ := isK_rep c1 rk
            have hck := MapKept.run_checkKey (w := w) u2 hik es.isEmpty 9999
            have hfin : ∀ (a : Option (Nat × Value)), Instr.findNow d.desc (act.eval k) es.toList 0 = some a → (execOp act.eval o).run P w = .ok (.value (if ok = true then .tuple #[(a.map (·.2)).getD zv, .bool a.isSome] else (a.map (·.2)).getD zv)) w := by
              intro a ha
              have hf := MapKept.run_findKey (w := w) u2 ha
              simp only [execOp, hop, hev, Instr.lookup, Sem.run_bind, run_underlying u1, Result.andThen_ok, MapKept.run_getObj_map b1]
              simp only [Sem.run_pure, Result.andThen_ok, Sem.run_bind]
              rw [hck]
              simp only [Result.andThen_ok, Sem.run_bind]
              rw [hf]
              cases a with
              | none => simp [run_zero g1 g2]
              | some p => simp
            rcases find_ok c1 rk .junk ents es.toList 0 (by simpa using b2) (fun j hj => by
              obtain ⟨e, q1, q2⟩ := b3 j hj; exact ⟨e, by simpa using q1, q2⟩) c2 with ⟨f1, f2, f3⟩ | ⟨y, j, e, f1, f2, f3, f4, f5, f6, f7⟩
            · refine ⟨_, hfin _ f2, ?_⟩
              rw [f1] at h1
              simp only [Option.some.injEq] at h1
              subst h1
              cases ok with
              | true =>
                refine .tup _ _ rfl fun j hj => ?_
                rcases j with _ | _ | j
                · exact g5
                · exact .v _ rfl
                · simp at hj; omega
              | false => exact g5
            · refine ⟨_, hfin _ f2, ?_⟩
              rw [f1] at h1
              simp only [Option.some.injEq] at h1
              subst h1
              cases ok with
              | true =>
                refine .tup _ _ rfl fun j hj => ?_
                rcases j with _ | _ | j
                · exact f4
                · exact .v _ rfl
                · simp at hj; omega
              | false => exact f4
        · cases h1
  · simp at h
theorem ok_lenM {t : TypeId} {x : Operand} {X : Opd} {kt et : TypeId} {S' : St} (hd : ∀ d, o.dst = some d → d < n) (hop : o.op = .call { callee := .builtin .len, args := #[x], argTypes := #[t] }) (hx : ofOperand x = some X)
    (hu : P.underlying t = some (.map kt et)) (h : (exLenM (X.ev a)).run S nid = some (v, S')) : OpOk P n o a S nid v S' := by
  generalize hxe : X.ev a = xv at h
  unfold exLenM at h
  split at h
  · rename_i id
    simp only [Eff.run_rd, Option.map_eq_some_iff, Prod.mk.injEq] at h
    obtain ⟨r, h1, rfl, rfl⟩ := h
    cases hg : S.g id with
    | none => rw [hg] at h1; simp at h1
    | some b =>
      rw [hg] at h1
      cases b with
      | arr es xs => simp at h1
      | map ents =>
        simp only [Option.bind_some, Option.some.injEq] at h1
        subst h1
        refine .pure hd fun E w act hS hF => ?_
        have rx := ofOperand_ok hF hx
        rw [hxe] at rx
        generalize hev : act.eval x = av at rx
        cases rx with
        | mp _ l hl =>
          obtain ⟨l', e, hN, es, clock, b1, b2, b3⟩ := hS.live id _ hg
          rw [hl] at e; cases e
          refine ⟨.int .i64 ents.length, ?_, .v _ rfl⟩
          simp [execOp, hop, resolve, invoke, builtin, Builtin.len_, hev, run_underlying hu, goInt, MapKept.run_getObj_map b1, b2]
  · simp at h
theorem keyStays {k : Value} {d : KK} (h : MapKept.IsKey d.desc k) (w : World) : (Instr.keyThatStays k k).run P w = .ok k w := by
  unfold Instr.keyThatStays
  have : Instr.sameBits 10000 k k = true := by
    cases d <;> cases k <;> simp [KK.desc, MapKept.IsKey] at h <;> simp [Instr.sameBits, MapKept.bytes_beq]
  rw [if_pos this]; rfl
theorem ok_mset {t : TypeId} {m k x : Operand} {M K X : Opd} {d : KK} {z : AV} {S' : St} (hd : ∀ d, o.dst = some d → d < n) (hop : o.op = .mapUpdate t m k x ∨ o.op = .insert t m k x) (hmm : ofOperand m = some M) (hk : ofOperand k = some K) (hx : ofOperand x = some X)
    (hm : mapOf P t = some (d, z)) (h : (exMset d (M.ev a) (K.ev a) (X.ev a)).run S nid = some (v, S')) : v = .junk ∧ OpOk P n o a S nid .junk S' := by
  generalize hme : M.ev a = mv at h
  generalize hke : K.ev a = kv at h
  generalize hxe : X.ev a = xv at h
  unfold exMset at h
  split at h
  · rename_i id
    simp only [Eff.run_wr, Option.map_eq_some_iff, Prod.mk.injEq] at h
    obtain ⟨r, h1, rfl, rfl⟩ := h
    refine ⟨rfl, ?_⟩
    cases hg : S.g id with
    | none => rw [hg] at h1; simp at h1
    | some b =>
      rw [hg] at h1
      cases b with
      | arr es xs => simp at h1
      | map ents =>
        simp only [Option.bind_some] at h1
        split at h1
        · rename_i hc
          obtain ⟨c1, c2⟩ := hc
          simp only [Option.some.injEq] at h1
          subst h1
          obtain ⟨kt, et, _, u1, u2, u3⟩ := mapOf_inv hm
          refine .of_skip hd fun E w act hS hF _ _ => ?_
          have rm := ofOperand_ok hF hmm
          have rk := ofOperand_ok hF hk
          have rx := ofOperand_ok hF hx
          rw [hme] at rm
          rw [hke] at rk
          rw [hxe] at rx
          generalize hev : act.eval m = av at rm
          cases rm with
          | mp _ l hl =>
            obtain ⟨l', e, hN, es, clock, b1, b2, b3⟩ := hS.live id _ hg
            rw [hl] at e; cases e
            obtain ⟨_, hik⟩ := isK_rep c1 rk
            have hck := MapKept.run_checkKey (w := w) u2 hik false 9999
            have fin : ∀ (ob : Obj), (execOp act.eval o).run P w = .ok .skip { w with heap := w.heap.setIfInBounds l.b ob } → BlkOk E { w with heap := w.heap.setIfInBounds l.b ob } l (.map (setE kv xv ents)) →
                ∃ w' E', (execOp act.eval o).run P w = .ok .skip w' ∧ Sim E' (S.set id (some (.map (setE kv xv ents)))) w' ∧ Evo E S w E' (S.set id (some (.map (setE kv xv ents)))) w' ∧ (pureOp o.op = true → E' = E ∧ w' = w) ∧ ∀ i, i ≠ nid → E.ρ i = none → E'.ρ i = none := by
              intro ob h1 h2
              have hne : ∀ b, b ≠ l.b → ({ w with heap := w.heap.setIfInBounds l.b ob } : World).heap[b]? = w.heap[b]? := fun b hb => by simp [Ne.symm hb]
              exact ⟨_, E, h1, hS.write hg hl hne h2, .write hg hl rfl rfl rfl (by simp) hne, fun hpu => by rcases hop with hop | hop <;> simp [pureOp, hop] at hpu, fun _ _ e => e⟩
            have hlt : l.b < w.heap.size := (Array.getElem?_eq_some_iff.mp b1).1
            rcases find_ok c1 rk xv ents es.toList 0 (by simpa using b2) (fun j hj => by
              obtain ⟨e, q1, q2⟩ := b3 j hj; exact ⟨e, by simpa using q1, q2⟩) c2 with ⟨f1, f2, f3⟩ | ⟨y, j, e, f1, f2, f3, f4, f5, f6, f7⟩
            · refine fin (.map (es.push { key := act.eval k, val := act.eval x, born := clock }) (clock + 1)) ?_ ?_
              · have hf := MapKept.run_findKey (w := w) u2 f2
                rcases hop with hop | hop <;>
                · simp only [execOp, hop, hev, Instr.mapUpdate, Sem.run_bind, run_underlying u1, Result.andThen_ok, MapKept.run_getObj_map b1, hck, hf, MapKept.run_setObj_map _ b1]
                  rfl
              · refine ⟨_, _, by simp [hlt]; exact ⟨rfl, rfl⟩, by simp [f3, b2], fun j hj => ?_⟩
                simp only [f3] at hj ⊢
                by_cases hjl : j < ents.length
                · obtain ⟨e, q1, q2, q3⟩ := b3 j hjl
                  refine ⟨e, by rw [Array.getElem?_push, if_neg (by omega)]; exact q1, ?_, ?_⟩
                  · rw [List.getElem_append_left hjl]; exact q2
                  · rw [List.getElem_append_left hjl]; exact q3
                · have : j = ents.length := by simp at hj; omega
                  subst this
                  refine ⟨⟨act.eval k, act.eval x, clock⟩, by rw [Array.getElem?_push, if_pos (by omega)], ?_, ?_⟩
                  · simp; exact rk
                  · simp; exact rx
            · simp only [Nat.zero_add] at f2
              refine fin (.map (es.modify j fun e => { e with key := act.eval k, val := act.eval x }) clock) ?_ ?_
              · have hf := MapKept.run_findKey (w := w) u2 f2
                have he : es[j]? = some e := by simpa using f3
                have hks : (Instr.keyThatStays (((es[j]?).map (·.key)).getD (act.eval k)) (act.eval k)).run P w = .ok (act.eval k) w := by
                  rw [he]; simp only [Option.map_some, Option.getD_some, f6]; exact keyStays hik w
                rcases hop with hop | hop <;>
                · simp only [execOp, hop, hev, Instr.mapUpdate, Sem.run_bind, run_underlying u1, Result.andThen_ok, MapKept.run_getObj_map b1, hck, hf, hks, MapKept.run_setObj_map _ b1]
                  rfl
              · refine ⟨_, _, by simp [hlt]; exact ⟨rfl, rfl⟩, by simp [f5, b2], fun i hi => ?_⟩
                simp only [f5, List.length_set] at hi ⊢
                obtain ⟨e2, q1, q2, q3⟩ := b3 i hi
                by_cases hij : j = i
                · subst hij
                  refine ⟨{ e2 with key := act.eval k, val := act.eval x }, by rw [Array.getElem?_modify, if_pos rfl, q1]; rfl, ?_, ?_⟩
                  · simp; exact rk
                  · simp; exact rx
                · refine ⟨e2, by rw [Array.getElem?_modify, if_neg hij]; exact q1, ?_, ?_⟩
                  · simp [hij]; exact q2
                  · simp [hij]; exact q3
        · cases h1
  · simp at h
end
end Go.Rf


/- Own work: equality of structs whose fields are integers. -/
set_option linter.unusedVariables false
set_option linter.unusedSimpArgs false
namespace Go.Rf
open Go.RowKit

def seqF (P : Program) (f : Field) : Option Nat :=
  if f.name ≠ "_" then (match P.underlying f.type with | some (.int _) => some f.offset | _ => none) else none
/-- An array of integers. -/
def arrOffs (P : Program) (m : Nat) (e : TypeId) : Option (List Nat) :=
  match P.underlying e, P.info? e with
  | some (.int _), some _ => if P.cellsOf e = 1 then some (List.range m) else none
  | _, _ => none
def seqOffs (P : Program) (t : TypeId) : Option (List Nat) :=
  match P.underlying t with
  | some (.struct fs) => if P.stoodInHeld t = false then (if P.eqGuardType P.depth t = false then fs.toList.mapM (seqF P) else none) else none
  | some (.array m e) => if P.eqGuardType P.depth t = false then arrOffs P m e else none
  | _ => none
def seqGo : List Nat → List AV → List AV → Option Bool
  | [], _, _ => some true
  | o :: os, xs, ys => match xs[o]?, ys[o]? with
    | some (.v (.int k a)), some (.v (.int k' b)) => if k = k' then (if (a == b) = true then seqGo os xs ys else some false) else none
    | _, _ => none
def exSeq (neq : Bool) (offs : List Nat) (x y : AV) : Option AV :=
  match x, y with
  | .agg xs, .agg ys => (seqGo offs xs ys).map fun b => .v (.bool (if neq = true then !b else b))
  | _, _ => none
section
variable {P : Program} {n : Nat} {o : Oper} {a : AF} {S : St} {nid : Nat} {v : AV}
theorem agg_at {E : Env} {xs : List AV} {vs : Array Value} (h : Rep E (.agg xs) (.agg vs)) {j : Nat} {k : IntKind} {m : Int} (hx : xs[j]? = some (.v (.int k m))) : vs[j]? = some (.int k m) := by
  cases h with
  | agg _ _ hn hat hr =>
    obtain ⟨hj, he⟩ := List.getElem?_eq_some_iff.mp hx
    have r := hr j hj
    rw [he] at r
    have e := r.v_inv
    have hs : j < vs.size := by omega
    simp only [Array.getD_eq_getD_getElem?, Array.getElem?_eq_getElem hs, Option.getD_some] at e
    rw [Array.getElem?_eq_getElem hs, e]
theorem run_eqFields {E : Env} {xs ys : List AV} {vs us : Array Value} (hx : Rep E (.agg xs) (.agg vs)) (hy : Rep E (.agg ys) (.agg us)) (d : Nat) (w : World) : ∀ (fs : List Field) (offs : List Nat) (b : Bool), fs.mapM (seqF P) = some offs → seqGo offs xs ys = some b →
    (Op.eqFields (d + 1) vs us fs).run P w = .ok b w
  | [], offs, b, h, hb => by
    simp at h; subst h
    simp [seqGo] at hb; subst hb
    simp [Op.eqFields]
  | f :: fs, offs, b, h, hb => by
    simp only [List.mapM_cons, Option.bind_eq_bind, Option.bind_eq_some_iff, Option.pure_def, Option.some.injEq] at h
    obtain ⟨o, ho, os, hos, rfl⟩ := h
    unfold seqF at ho
    split at ho
    · rename_i hname
      split at ho
      · rename_i k hu
        cases ho
        simp only [seqGo] at hb
        split at hb
        · rename_i k1 a1 k2 a2 h1 h2
          split at hb
          · rename_i hk
            subst hk
            have p1 := agg_at hx h1
            have p2 := agg_at hy h2
            have hpk : P.plainKey f.type = true := by simp [Program.plainKey, hu]
            simp only [Op.eqFields, if_pos hname, Sem.run_bind, run_part_plain w hpk p1, run_part_plain w hpk p2, Result.andThen_ok, run_equalIn_int w d f.type k1 k a1 a2 hu]
            split at hb
            · rename_i he
              rw [he]
              simpa using run_eqFields hx hy d w fs os b hos hb
            · rename_i he
              have he' : (a1 == a2) = false := by simpa using he
              cases hb
              rw [he']; rfl
          · cases hb
        · cases hb
      · cases ho
    · cases ho
theorem run_eqItemsI {E : Env} {xs ys : List AV} {vs us : Array Value} (hx : Rep E (.agg xs) (.agg vs)) (hy : Rep E (.agg ys) (.agg us)) (d : Nat) (w : World) {e : TypeId} {k : IntKind} (hu : P.underlying e = some (.int k)) : ∀ (offs : List Nat) (b : Bool), seqGo offs xs ys = some b →
    (Op.eqItems (d + 1) e 1 vs us offs).run P w = .ok b w
  | [], b, hb => by
    simp [seqGo] at hb; subst hb
    simp [Op.eqItems]
  | o :: os, b, hb => by
    simp only [seqGo] at hb
    split at hb
    · rename_i k1 a1 k2 a2 h1 h2
      split at hb
      · rename_i hk
        subst hk
        have p1 := agg_at hx h1
        have p2 := agg_at hy h2
        have hpk : P.plainKey e = true := by simp [Program.plainKey, hu]
        simp only [Op.eqItems, Nat.mul_one, Sem.run_bind, run_part_plain w hpk p1, run_part_plain w hpk p2, Result.andThen_ok, run_equalIn_int w d e k1 k a1 a2 hu]
        split at hb
        · rename_i he
          rw [he]
          simpa using run_eqItemsI hx hy d w hu os b hb
        · rename_i he
          have he' : (a1 == a2) = false := by simpa using he
          cases hb
          rw [he']; rfl
      · cases hb
    · cases hb
theorem ok_seq {op : BinOp} {t t2 : TypeId} {x y : Operand} {X Y : Opd} {q : Bool} {offs : List Nat} (hd : ∀ d, o.dst = some d → d < n) (hop : o.op = .binOp op t x y t2) (hx : ofOperand x = some X) (hy : ofOperand y = some Y)
    (ho : seqOffs P t = some offs) (hq : (op = .eql ∧ q = false) ∨ (op = .neq ∧ q = true)) (h : exSeq q offs (X.ev a) (Y.ev a) = some v) : OpOk P n o a S nid v S := by
  refine .pure hd fun E w act hS hF => ?_
  have rx := ofOperand_ok hF hx
  have ry := ofOperand_ok hF hy
  generalize X.ev a = p at rx h
  generalize Y.ev a = r at ry h
  unfold exSeq at h
  split at h
  · rename_i xs ys
    simp only [Option.map_eq_some_iff] at h
    obtain ⟨b, hb, rfl⟩ := h
    generalize hv1 : act.eval x = v1 at rx
    generalize hv2 : act.eval y = v2 at ry
    obtain ⟨vs, rfl⟩ : ∃ vs, v1 = .agg vs := by cases rx with | agg _ vs _ _ _ => exact ⟨vs, rfl⟩
    obtain ⟨us, rfl⟩ : ∃ us, v2 = .agg us := by cases ry with | agg _ vs _ _ _ => exact ⟨vs, rfl⟩
    unfold seqOffs at ho
    split at ho
    · rename_i fs hfs
      split at ho
      · rename_i hst
        split at ho
        · rename_i hgd
          have hfo : P.fieldsOf t = fs := by simp [Program.fieldsOf, hfs]
          have he : (Op.equalIn 10000 t (.agg vs) (.agg us)).run P w = .ok b w := by
            rw [run_equalIn_struct w 9999 t vs us (by rw [hfo]; exact hfs) hst, hfo]
            exact run_eqFields rx ry 9998 w _ _ _ ho hb
          rcases hq with ⟨rfl, rfl⟩ | ⟨rfl, rfl⟩
          · exact ⟨.bool b, by simp only [execOp, hop, hv1, hv2, Sem.run_bind, run_eqGuard_agg w .eql t x y vs us hgd, Result.andThen_ok, run_eql_struct, he]; rfl, .v _ rfl⟩
          · exact ⟨.bool (!b), by simp only [execOp, hop, hv1, hv2, Sem.run_bind, run_eqGuard_agg w .neq t x y vs us hgd, Result.andThen_ok, run_neq_struct, he]; rfl, .v _ rfl⟩
        · cases ho
      · cases ho
    · rename_i m e hu
      split at ho
      · rename_i hgd
        unfold arrOffs at ho
        split at ho
        · rename_i k i hue hie
          split at ho
          · rename_i hc1
            cases ho
            have he : (Op.equalIn 10000 t (.agg vs) (.agg us)).run P w = .ok b w := by
              rw [run_equalIn_array w 9999 vs us hu hie, hc1]
              exact run_eqItemsI rx ry 9998 w hue _ _ hb
            rcases hq with ⟨rfl, rfl⟩ | ⟨rfl, rfl⟩
            · exact ⟨.bool b, by simp only [execOp, hop, hv1, hv2, Sem.run_bind, run_eqGuard_agg w .eql t x y vs us hgd, Result.andThen_ok, run_eql_struct, he]; rfl, .v _ rfl⟩
            · exact ⟨.bool (!b), by simp only [execOp, hop, hv1, hv2, Sem.run_bind, run_eqGuard_agg w .neq t x y vs us hgd, Result.andThen_ok, run_neq_struct, he]; rfl, .v _ rfl⟩
          · cases ho
        · cases ho
      · cases ho
    · cases ho
  · cases h
end
end Go.Rf


/- Own work: nil tests of pointers, capacities, clear and copy. -/
set_option linter.unusedVariables false
set_option linter.unusedSimpArgs false
namespace Go.Rf
open Go.RowKit

def exNil (x : AV) : Option AV :=
  match x with
  | .ptr id ix c => some (.ptr id ix c)
  | .eptr y c => some (.eptr y c)
  | .clo f a b => some (.clo f a b)
  | _ => none
def exCap (x : AV) : Option AV :=
  match x with
  | .sl true xs => some (.v (.int .i64 xs.length))
  | _ => none
def exClr (es : Nat) (z : AV) (x : AV) : Eff :=
  match x with
  | .sl t xs => .val (if xs.length = 0 then some .junk else none)
  | .own id off len => .wr id fun
    | .arr es' xs => if es' = es ∧ off + len ≤ xs.length ∧ z.cells.length = es then some (.arr es (xs.take off ++ List.replicate len z ++ xs.drop (off + len))) else none
    | _ => none
  | _ => .val none
def exCpy (es : Nat) (x y : AV) : Eff :=
  match x with
  | .sl _ xs => .val (if xs.length = 0 then none else none)
  | .own id off len => ⟨id :: y.oid, fun
    | .arr es' xs :: bs => (lstE es bs y).bind fun ys =>
        if es' = es ∧ off + len ≤ xs.length ∧ y.oid ≠ [id] then
          some ⟨fun _ => .junk, [some (.arr es (xs.take off ++ ys.take (min ys.length len) ++ xs.drop (off + min ys.length len)))], none⟩ else none
    | _ => none⟩
  | _ => .val none
/-- x is nil (or isn't): of an empty list nothing is known. -/
def exNilq (sl neg : Bool) (x : AV) : Option AV :=
  match sl, x with
  | true, .sl _ (_ :: _) => some (.v (.bool neg))
  | true, .own _ _ (_ + 1) => some (.v (.bool neg))
  | false, .v (.pointer none) => some (.v (.bool (!neg)))
  | false, .ptr _ _ _ => some (.v (.bool neg))
  | false, .eptr _ _ => some (.v (.bool neg))
  | _, _ => none
def isEmptyL : AV → Prop
  | .sl _ [] => True
  | .own _ _ 0 => True
  | _ => False
/-- An empty list, and so many zero elements behind. -/
def exAppz (es by_ : Nat) (z x n : AV) : Eff :=
  match x, n with
  | .sl true [], .v (.int _ m) => .new (if 0 < m ∧ m * by_ ≤ 140737488355328 ∧ m ≤ 140737488355328 ∧ 0 < es ∧ z.cells.length = es then some (.arr es (List.replicate m.toNat z), fun i => .own i 0 m.toNat) else none)
  | _, _ => .val none
def cnil (P : Program) (op : BinOp) (t : TypeId) (y : Operand) : Option (Bool × Bool) :=
  match op, y with
  | .eql, .const (.slice none 0 0) => match P.underlying t with | some (.slice _) => some (true, false) | _ => none
  | .neq, .const (.slice none 0 0) => match P.underlying t with | some (.slice _) => some (true, true) | _ => none
  | .eql, .const (.pointer none) => match P.underlying t with | some (.pointer _) => some (false, false) | _ => none
  | .neq, .const (.pointer none) => match P.underlying t with | some (.pointer _) => some (false, true) | _ => none
  | _, _ => none
/-- Part of a block is written over. -/
theorem blk_splice {E : Env} {w : World} {l : Loc} {es : Nat} {xs ys : List AV} {news : List Value} (h : BlkOk E w l (.arr es xs)) (off : Nat) (hoff : off + ys.length ≤ xs.length)
    (hy : ∀ x ∈ ys, x.cells.length = es) (hya : ∀ y ∈ flat ys, y.atom = true) (hn : news.length = ys.length * es)
    (hrn : ∀ k (hk : k < (flat ys).length), ∃ v, news[k]? = some v ∧ Rep E ((flat ys)[k]) v) :
    ∃ cs el, w.heap[l.b]? = some (.cells cs el (0, 0)) ∧ (l.o + off * es) + news.length ≤ cs.size ∧
      BlkOk E (w.setRow l.b (cs.toList.take (l.o + off * es) ++ news ++ cs.toList.drop (l.o + off * es + news.length)).toArray) l (.arr es (xs.take off ++ ys ++ xs.drop (off + ys.length))) := by
  obtain ⟨h1, h2, h3, h4, cs, el, h5, h6, h7⟩ := h
  have hlx := length_flat h3
  have hly := length_flat hy
  have hm : (off + ys.length) * es ≤ xs.length * es := Nat.mul_le_mul_right _ hoff
  have hm2 : xs.length * es ≤ l.tot * es := Nat.mul_le_mul_right _ h2
  rw [Nat.add_mul] at hm
  have hf : l.o + off * es + news.length ≤ cs.size := by omega
  have hes : l.es = es := h1
  have hcells : ∀ x ∈ xs.take off ++ ys ++ xs.drop (off + ys.length), x.cells.length = es := by
    intro x hx
    rcases List.mem_append.mp hx with hx | hx
    · rcases List.mem_append.mp hx with hx | hx
      · exact h3 x (List.mem_of_mem_take hx)
      · exact hy x hx
    · exact h3 x (List.mem_of_mem_drop hx)
  have hfl : flat (xs.take off ++ ys ++ xs.drop (off + ys.length)) = (flat xs).take (off * es) ++ flat ys ++ (flat xs).drop ((off + ys.length) * es) := by
    rw [flat_append, flat_append, flat_take h3, flat_drop h3]
  have hl1 : ((flat xs).take (off * es)).length = off * es := by rw [List.length_take]; omega
  refine ⟨cs, el, h5, hf, h1, ?_, hcells, ?_, _, el, setRow_heap w l.b cs _ el _ h5, ?_, ?_⟩
  · simp; omega
  · intro y hy'
    rw [hfl] at hy'
    rcases List.mem_append.mp hy' with hx | hx
    · rcases List.mem_append.mp hx with hx | hx
      · exact h4 y (List.mem_of_mem_take hx)
      · exact hya y hx
    · exact h4 y (List.mem_of_mem_drop hx)
  · rw [splice_size _ _ _ hf]; exact h6
  · intro k hk
    have hk2 : k < ((flat xs).take (off * es) ++ flat ys ++ (flat xs).drop ((off + ys.length) * es)).length := by rw [← hfl]; exact hk
    have hge : (flat (xs.take off ++ ys ++ xs.drop (off + ys.length)))[k] = ((flat xs).take (off * es) ++ flat ys ++ (flat xs).drop ((off + ys.length) * es))[k]'hk2 := by simp only [hfl]
    rw [hge]
    rw [splice_get _ _ _ hf]
    have hlen : k < (flat xs).length := by
      simp only [List.length_append, List.length_take, List.length_drop] at hk2
      have : (off + ys.length) * es = off * es + ys.length * es := Nat.add_mul _ _ _
      omega
    by_cases c1 : k < off * es
    · rw [if_neg (by omega)]
      obtain ⟨v, a, b⟩ := h7 k hlen
      refine ⟨v, a, ?_⟩
      rw [List.getElem_append_left (by simp only [List.length_append, hl1]; omega), List.getElem_append_left (by rw [hl1]; exact c1), List.getElem_take]; exact b
    · by_cases c2 : k < off * es + ys.length * es
      · rw [if_pos (by omega)]
        obtain ⟨v, a, b⟩ := hrn (k - off * es) (by omega)
        refine ⟨v, ?_, ?_⟩
        · rw [← a]; congr 1; omega
        · rw [List.getElem_append_left (by simp only [List.length_append, hl1]; omega), List.getElem_append_right (by rw [hl1]; omega)]
          simp only [hl1]; exact b
      · rw [if_neg (by omega)]
        obtain ⟨v, a, b⟩ := h7 k hlen
        refine ⟨v, a, ?_⟩
        rw [List.getElem_append_right (by simp only [List.length_append, hl1]; omega), List.getElem_drop]
        have e : (off + ys.length) * es + (k - ((flat xs).take (off * es) ++ flat ys).length) = k := by
          simp only [List.length_append, hl1]
          have : (off + ys.length) * es = off * es + ys.length * es := Nat.add_mul _ _ _
          omega
        simp only [e]; exact b
section
variable {P : Program} {n : Nat} {o : Oper} {a : AF} {S : St} {nid : Nat} {v : AV}

theorem ok_nilc {x : Operand} {X : Opd} (hd : ∀ d, o.dst = some d → d < n) (hop : o.op = .nilCheck x) (hx : ofOperand x = some X) (h : exNil (X.ev a) = some v) : OpOk P n o a S nid v S := by
  refine .pure hd fun E w act hS hF => ?_
  have rx := ofOperand_ok hF hx
  generalize X.ev a = p at rx h
  generalize hev : act.eval x = av at rx
  cases rx with
  | ptr id ix c l hl => simp [exNil] at h; subst h; exact ⟨_, by simp [execOp, hop, hev], .ptr _ _ _ l hl⟩
  | eptr y c b p cs f hb hat hc hr => simp [exNil] at h; subst h; exact ⟨_, by simp [execOp, hop, hev], .eptr y c b p cs f hb hat hc hr⟩
  | clo f first cap fv cv hn hm hf hc => simp [exNil] at h; subst h; exact ⟨_, by simp [execOp, hop, hev], .clo f first cap fv cv hn hm hf hc⟩
  | _ => simp [exNil] at h
theorem ok_cap {t : TypeId} {x : Operand} {X : Opd} {e : TypeId} (hd : ∀ d, o.dst = some d → d < n) (hop : o.op = .call { callee := .builtin .cap, args := #[x], argTypes := #[t] }) (hx : ofOperand x = some X)
    (hu : P.underlying t = some (.slice e)) (h : exCap (X.ev a) = some v) : OpOk P n o a S nid v S := by
  refine .pure hd fun E w act hS hF => ?_
  have rx := ofOperand_ok hF hx
  generalize X.ev a = p at rx h
  generalize hev : act.eval x = av at rx
  have run : ∀ A m c, av = .slice A m c → (execOp act.eval o).run P w = .ok (.value (.int .i64 c)) w := by
    intro A m c e
    subst e
    simp [execOp, hop, resolve, invoke, builtin, Builtin.cap_, hev, run_underlying hu, goInt]
  unfold exCap at h
  split at h
  · rename_i xs
    cases h
    cases rx with
    | sl0 t' A cap ht => have := ht rfl; subst this; exact ⟨_, run _ _ _ rfl, .v _ rfl⟩
    | sl t' xs b p cap cs es f hne hb hes hcap ht hat hc hr => have := ht rfl; subst this; exact ⟨_, run _ _ _ rfl, .v _ rfl⟩
  · cases h
theorem ok_clr {t : TypeId} {x : Operand} {X : Opd} {z : AV} {es by_ : Nat} {S' : St} (hd : ∀ d, o.dst = some d → d < n) (hop : o.op = .call { callee := .builtin .clear, args := #[x], argTypes := #[t] }) (hx : ofOperand x = some X)
    (ht : elemOf3 P t = some (z, es, by_)) (h : (exClr es z (X.ev a)).run S nid = some (v, S')) : OpOk P n o a S nid v S' := by
  obtain ⟨e, i, hu, hz, hi, hb⟩ := elemOf3_inv ht
  generalize hxe : X.ev a = p at h
  unfold exClr at h
  split at h
  · rename_i t' xs
    simp only [Eff.run_val, Option.map_eq_some_iff, Prod.mk.injEq] at h
    obtain ⟨v', h1, rfl, rfl⟩ := h
    split at h1
    · rename_i h0
      cases h1
      have h0 : xs = [] := List.eq_nil_of_length_eq_zero h0
      subst h0
      refine .pure hd fun E w act hS hF => ?_
      have rx := ofOperand_ok hF hx
      rw [hxe] at rx
      generalize hev : act.eval x = av at rx
      refine ⟨.tuple #[], ?_, .junk _⟩
      cases rx with
      | sl0 t' A cap ht => cases A <;> simp [execOp, hop, resolve, invoke, builtin, Builtin.clear_, hev, run_underlying hu]
      | sl t' xs b p cap cs es f hne hb hes hcap ht hat hc hr => simp at hne
    · cases h1
  · rename_i id off len
    simp only [Eff.run_wr, Option.map_eq_some_iff, Prod.mk.injEq] at h
    obtain ⟨b', h1, h2, rfl⟩ := h
    subst h2
    cases hg : S.g id with
    | none => rw [hg] at h1; simp at h1
    | some bk =>
      rw [hg] at h1
      cases bk with
      | map e => simp at h1
      | arr es' xs =>
        simp only [Option.bind_some] at h1
        split at h1
        · rename_i hc
          obtain ⟨rfl, hc1, hc2⟩ := hc
          cases h1
          refine .of_run hd fun E w act hS hF hn hlt => ?_
          have rx := ofOperand_ok hF hx
          rw [hxe] at rx
          obtain ⟨i', zv, g1, g2, g3, g4, g5⟩ := zeroOf_rep (E := E) hz
          rw [hi] at g1; cases g1
          generalize hev : act.eval x = av at rx
          cases rx with
          | own _ _ _ A cap l hl hlen hA =>
            obtain ⟨l', el, hN, ok⟩ := hS.live id _ hg
            rw [hl] at el; cases el
            have hes : l.es = es' := ok.1
            have hrepl : ∀ x ∈ List.replicate len z, x.cells.length = es' := by intro x hx; rw [(List.mem_replicate.mp hx).2]; exact hc2
            have hat : ∀ y ∈ flat (List.replicate len z), y.atom = true := by
              intro y hy
              obtain ⟨x, hx, hyx⟩ := List.mem_flatMap.mp hy
              rw [(List.mem_replicate.mp hx).2] at hyx
              exact g4.2.1 y hyx
            by_cases h0 : len = 0
            · subst h0
              refine ⟨.tuple #[], w, E, ?_, ?_, ?_, .junk _, fun hpu => by simp [pureOp, hop] at hpu, fun _ _ e => e⟩
              · cases A <;> simp [execOp, hop, resolve, invoke, builtin, Builtin.clear_, hev, run_underlying hu]
              · have : (S.set id (some (.arr es' (xs.take off ++ List.replicate 0 z ++ xs.drop (off + 0))))) = S := by
                  cases S with
                  | mk n g =>
                    simp only [St.set, List.replicate_zero, List.append_nil, Nat.add_zero, List.take_append_drop]
                    congr 1
                    funext j
                    simp only [updF]
                    split
                    · rename_i e; rw [e]; exact hg.symm
                    · rfl
                rw [this]; exact hS
              · have : (S.set id (some (.arr es' (xs.take off ++ List.replicate 0 z ++ xs.drop (off + 0))))) = S := by
                  cases S with
                  | mk n g =>
                    simp only [St.set, List.replicate_zero, List.append_nil, Nat.add_zero, List.take_append_drop]
                    congr 1
                    funext j
                    simp only [updF]
                    split
                    · rename_i e; rw [e]; exact hg.symm
                    · rfl
                rw [this]; exact .refl _ _ _
            · obtain ⟨hA1, hA2⟩ := hA (by omega)
              let news := (Builtin.zeroCells zv.cells len).toList
              have hnl : news.length = (List.replicate len z).length * es' := by
                simp [news, size_zeroCells, g4.1, hc2]
              have hrn : ∀ k (hk : k < (flat (List.replicate len z)).length), ∃ v, news[k]? = some v ∧ Rep E ((flat (List.replicate len z))[k]) v := by
                intro k hk
                obtain ⟨v, a1, a2⟩ := repL_made g4 hc2 len len (Nat.le_refl _) k hk
                refine ⟨v, ?_, a2⟩
                have hsz : zv.cells.size = es' := by rw [g4.1, hc2]
                rw [hsz] at a1
                simp only [news]
                rw [Array.getElem?_toList, Builtin.zeroCells, hsz]
                exact a1
              obtain ⟨cs, ce, k1, k2, k3⟩ := blk_splice ok off (by simpa using hc1) hrepl hat hnl hrn
              simp only [List.length_replicate] at k3
              have hone := mem_flat_atoms_news hat (es := es') (by rw [length_flat hrepl]; omega) hrn
              have hst := run_storeCells_at P l.b (l.o + off * es') ce news 0 cs w k1 (by simpa using k2) hone
              simp only [Nat.add_zero] at hst
              refine ⟨.tuple #[], _, E, ?_, hS.write hg hl (fun b hb => setRow_other w l.b b _ hb) k3, .write hg hl rfl rfl rfl (by simp [World.setRow]) (fun b hb => setRow_other w l.b b _ hb), .junk _, fun hpu => by simp [pureOp, hop] at hpu, fun _ _ e => e⟩
              rw [hA1, hes] at hev
              obtain ⟨m, rfl⟩ : ∃ m, len = m + 1 := ⟨len - 1, by omega⟩
              simp [execOp, hop, resolve, invoke, builtin, Builtin.clear_, hev, run_underlying hu, zeroValue, typeInfo, hi, g2, news, hst]
        · cases h1
  · simp at h
theorem run_nilS {op : BinOp} {t t2 : TypeId} {x y : Operand} {neg : Bool} (hop : o.op = .binOp op t x y t2) (hc : cnil P op t y = some (true, neg)) {act : Act} {A : Option Addr} {m c : Nat} (e : act.eval x = .slice A m c) (w : World) :
    (execOp act.eval o).run P w = .ok (.value (.bool (A.isNone != neg))) w := by
  unfold cnil at hc
  split at hc <;> (try split at hc) <;> (try cases hc)
  all_goals rename_i hu
  · simp only [execOp, hop, e, eqGuard_at_slice]
    simp [Act.eval, Lib.run_eql_slice_nil w t _ A m c 0 0 hu]
  · simp only [execOp, hop, e, eqGuard_at_slice]
    simp [Act.eval, run_neq_slice_nil w t _ A m c hu]
theorem run_nilP {op : BinOp} {t t2 : TypeId} {x y : Operand} {neg : Bool} (hop : o.op = .binOp op t x y t2) (hc : cnil P op t y = some (false, neg)) {act : Act} {p : Option Addr} (e : act.eval x = .pointer p) (w : World) :
    (execOp act.eval o).run P w = .ok (.value (.bool (p.isNone != neg))) w := by
  unfold cnil at hc
  split at hc <;> (try split at hc) <;> (try cases hc)
  all_goals rename_i hu
  · have he2 : P.underlying t = some (.pointer (P.pointee t)) := by rw [hu]; simp [Program.pointee, hu]
    simp only [execOp, hop, e, eqGuard_at_pointer]
    simp [Act.eval, run_eql_pointer_nil w t p he2]
  · have he2 : P.underlying t = some (.pointer (P.pointee t)) := by rw [hu]; simp [Program.pointee, hu]
    simp only [execOp, hop, e, eqGuard_at_pointer]
    simp [Act.eval, run_neq_pointer_nil w t p he2]
theorem ok_nilq {op : BinOp} {t t2 : TypeId} {x y : Operand} {sl neg : Bool} {X : Opd} (hd : ∀ d, o.dst = some d → d < n) (hop : o.op = .binOp op t x y t2) (hc : cnil P op t y = some (sl, neg)) (hx : ofOperand x = some X) (h : exNilq sl neg (X.ev a) = some v) : OpOk P n o a S nid v S := by
  refine .pure hd fun E w act hS hF => ?_
  have rx := ofOperand_ok hF hx
  generalize X.ev a = p at rx h
  generalize hev : act.eval x = av at rx
  cases sl with
  | true =>
    cases rx with
    | sl t' xs b p cap cs es f hne hb hes hcap ht hat hcc hr =>
      cases xs with
      | nil => simp at hne
      | cons y ys => simp [exNilq] at h; subst h; exact ⟨_, run_nilS hop hc hev w, by simpa using .v _ rfl⟩
    | own id off len A cap l hl hlen hA =>
      cases len with
      | zero => simp [exNilq] at h
      | succ m =>
        simp [exNilq] at h; subst h
        obtain ⟨hA1, _⟩ := hA (by omega)
        subst hA1
        exact ⟨_, run_nilS hop hc hev w, by simpa using .v _ rfl⟩
    | sl0 t A cap ht => simp [exNilq] at h
    | _ => simp [exNilq] at h
  | false =>
    cases rx with
    | ptr id ix c l hl => simp [exNilq] at h; subst h; exact ⟨_, run_nilP hop hc hev w, by simpa using .v _ rfl⟩
    | eptr y c b p cs f hb hat hcc hr => simp [exNilq] at h; subst h; exact ⟨_, run_nilP hop hc hev w, by simpa using .v _ rfl⟩
    | v _ hs =>
      cases av with
      | pointer p =>
        cases p with
        | none => simp [exNilq] at h; subst h; exact ⟨_, run_nilP hop hc hev w, by simpa using .v _ rfl⟩
        | some q => simp [scalar] at hs
      | _ => simp [exNilq] at h
    | _ => simp [exNilq] at h
/-- An empty list is nil, or isn't. -/
theorem run_nilE {op : BinOp} {t t2 : TypeId} {x y : Operand} {neg : Bool} {X : Opd} (hop : o.op = .binOp op t x y t2) (hc : cnil P op t y = some (true, neg)) (hx : ofOperand x = some X) (h : isEmptyL (X.ev a)) {E : Env} {act : Act} (hF : RepF E n a act) (w : World) :
    ∃ b, (execOp act.eval o).run P w = .ok (.value (.bool b)) w := by
  have rx := ofOperand_ok hF hx
  generalize X.ev a = p at rx h
  generalize hev : act.eval x = av at rx
  cases rx with
  | sl0 t A cap ht => exact ⟨_, run_nilS hop hc hev w⟩
  | own id off len A cap l hl hlen hA => exact ⟨_, run_nilS hop hc hev w⟩
  | sl t' xs b p cap cs es f hne hb hes hcap ht hat hcc hr => exact ⟨_, run_nilS hop hc hev w⟩
  | _ => exact h.elim
theorem ok_appz {t u : TypeId} {x y : Operand} {X Y : Opd} {z : AV} {es by_ : Nat} {kn : IntKind} {S' : St} (hd : ∀ d, o.dst = some d → d < n) (hop : o.op = .call { callee := .builtin .append, args := #[x, y], argTypes := #[t, u] })
    (hx : ofOperand x = some X) (hy : ofOperand y = some Y) (ht : elemOf3 P t = some (z, es, by_)) (hu : P.underlying u = some (.int kn)) (h : (exAppz es by_ z (X.ev a) (Y.ev a)).run S nid = some (v, S')) : OpOk P n o a S nid v S' := by
  obtain ⟨e, i, hut, hz, hi, hb⟩ := elemOf3_inv ht
  generalize hxe : X.ev a = p at h
  generalize hye : Y.ev a = q at h
  unfold exAppz at h
  split at h
  · rename_i k m
    simp only [Eff.run_new, Option.map_eq_some_iff, Prod.mk.injEq] at h
    obtain ⟨p, h1, rfl, rfl⟩ := h
    split at h1
    · rename_i hcond
      obtain ⟨c1, c2, c3, c4, c5⟩ := hcond
      cases h1
      have hrepl : ∀ x ∈ List.replicate m.toNat z, x.cells.length = es := by intro x hx; rw [(List.mem_replicate.mp hx).2]; exact c5
      refine OpOk.alloc (f := fun i => .own i 0 m.toNat) hd (by rw [hop]; rfl) hrepl fun E w act hS hF => ?_
      have rx := ofOperand_ok hF hx
      have ry := ofOperand_ok hF hy
      rw [hxe] at rx
      rw [hye] at ry
      have ey := ry.v_inv
      obtain ⟨i', zv, g1, g2, g3, g4, g5⟩ := zeroOf_rep (E := E) hz
      rw [hi] at g1; cases g1
      generalize hev : act.eval x = av at rx
      cases rx with
      | sl _ xs b p cap cs es f hne hb hes hcap ht hat hcc hr => simp at hne
      | sl0 _ A cap ht0 =>
        have := ht0 rfl
        subst this
        obtain ⟨k0, rfl⟩ : ∃ k0 : Nat, m = (k0 : Int) := ⟨m.toNat, by omega⟩
        simp only [Int.toNat_natCast] at *
        have hk0 : 0 < k0 := by omega
        have hw : IntKind.i64.wrap (k0 : Int) = k0 := by rw [IntKind.wrap_i64]; omega
        have hn0 : k0 ≠ 0 := by omega
        have h63' : ¬ (9223372036854775807 < (k0 : Int)) := by omega
        have h48n : k0 * i.bytes ≤ 140737488355328 := by
          rw [hb]
          have h9 : ((k0 * by_ : Nat) : Int) ≤ 140737488355328 := by rw [Int.natCast_mul]; exact c2
          exact Int.ofNat_le.mp h9
        have h48' : ¬ (281474976710656 < Builtin.nextslicecap k0 0 * i.bytes) := by rw [nextslicecap_zero hk0]; omega
        have h48i : ¬ (281474976710656 < (k0 : Int) * (i.bytes : Int)) := by
          rw [← Int.natCast_mul]; omega
        have hneg : ¬ ((k0 : Int) < 0) := by omega
        have hns : ¬ (k0 * i.size = 0) := Nat.mul_ne_zero hn0 (by omega)
        have hgc : k0 ≤ grownCap w k0 0 e := by simpa using grownCap_ge w k0 0 e
        have hrun : (Builtin.append_ #[t, u] o.type #[.slice A 0 0, .int k k0]).run P w =
            .ok (.slice (some ⟨w.heap.size, 0, none⟩) k0 (grownCap w k0 0 e)) (w.drew.alloc (.cells (Builtin.zeroCells zv.cells k0 ++ Builtin.zeroCells zv.cells (grownCap w k0 0 e - k0)) e)) := by
          have hf : ∀ w, (Builtin.firstCells i.size 0 (.slice A 0 0)).run P w = .ok #[] w := by
            intro w
            cases A <;> simp [Builtin.firstCells, loadCells, loadCellsFrom]
          simp [Builtin.append_, run_underlying hut, run_underlying hu, sizeOf, typeInfo, zeroValue, hi, g2, asInt, asIntOf, hw, hn0, hneg, hns, h63', h48', h48i, Question.forced, hf, newRow, grownCap]
        refine ⟨.slice (some ⟨w.heap.size, 0, none⟩) k0 (grownCap w k0 0 e), Builtin.zeroCells zv.cells k0 ++ Builtin.zeroCells zv.cells (grownCap w k0 0 e - k0), e, grownCap w k0 0 e, w.drew, rfl, hS.drew, .drew _ _ _, by simp [execOp, hop, resolve, invoke, builtin, hev, ey, hrun], ?_, by simpa using hgc, ?_, ?_, ?_⟩
        · intro y hy
          obtain ⟨x, hx, hyx⟩ := List.mem_flatMap.mp hy
          rw [(List.mem_replicate.mp hx).2] at hyx
          exact g4.2.1 y hyx
        · have hsz : zv.cells.size = es := by rw [g4.1, c5]
          simp only [Array.size_append, size_zeroCells, hsz]
          rw [← Nat.add_mul]
          exact Nat.mul_le_mul_right _ (by omega)
        · intro j hj
          have hsz : zv.cells.size = es := by rw [g4.1, c5]
          obtain ⟨u, a1, a2⟩ := repL_made g4 c5 k0 k0 (Nat.le_refl _) j hj
          refine ⟨u, ?_, a2⟩
          have hjl : j < (Builtin.zeroCells zv.cells k0).size := by
            rw [size_zeroCells, hsz]
            rw [length_flat hrepl] at hj
            simpa using hj
          rw [Array.getElem?_append_left hjl, Builtin.zeroCells]
          rw [hsz] at a1 ⊢; exact a1
        · intro E' he
          exact .own nid 0 _ (some ⟨w.heap.size, 0, none⟩) (grownCap w k0 0 e) _ he hgc (fun _ => ⟨by simp, by simp⟩)
    · cases h1
  · simp at h
theorem Reads.take {E : Env} {w : World} {es : Nat} {ys : List AV} {A : Option Addr} (h : Reads E w es ys A) (n : Nat) : Reads E w es (ys.take n) A := by
  refine ⟨fun x hx => h.hes x (List.mem_of_mem_take hx), fun y hy => by rw [flat_take h.hes] at hy; exact h.hat y (List.mem_of_mem_take hy), fun hne => ?_⟩
  obtain ⟨b, p, cs, el, fz, h1, h2, h3⟩ := h.at_ (by rintro rfl; simp at hne)
  refine ⟨b, p, cs, el, fz, h1, h2, fun k hk => ?_⟩
  have hk2 : k < ((flat ys).take (n * es)).length := by rw [← flat_take h.hes]; exact hk
  simp only [List.length_take] at hk2
  obtain ⟨u, a1, a2⟩ := h3 k (by omega)
  refine ⟨u, a1, ?_⟩
  have : (flat (ys.take n))[k] = (flat ys)[k]'(by omega) := by simp only [flat_take h.hes, List.getElem_take]
  rw [this]; exact a2
theorem set_same {S : St} {id : Nat} {b : Blk} (hg : S.g id = some b) : S.set id (some b) = S := by
  cases S with
  | mk n g =>
    simp only [St.set]
    congr 1
    funext j
    simp only [updF]
    split
    · rename_i e; rw [e]; exact hg.symm
    · rfl
theorem ok_cpy {t u : TypeId} {x y : Operand} {X Y : Opd} {z : AV} {es by_ : Nat} {S' : St} (hd : ∀ d, o.dst = some d → d < n) (hop : o.op = .call { callee := .builtin .copy, args := #[x, y], argTypes := #[t, u] }) (hx : ofOperand x = some X)
    (hy : ofOperand y = some Y) (ht : elemOf3 P t = some (z, es, by_)) (h : (exCpy es (X.ev a) (Y.ev a)).run S nid = some (v, S')) : OpOk P n o a S nid v S' := by
  obtain ⟨e, i, hu, hz, hi, hb⟩ := elemOf3_inv ht
  generalize hxe : X.ev a = p at h
  generalize hye : Y.ev a = q at h
  unfold exCpy at h
  split at h
  · rename_i t' xs
    simp only [Eff.run_val, Option.map_eq_some_iff, Prod.mk.injEq] at h
    obtain ⟨v', h1, rfl, rfl⟩ := h
    split at h1 <;> cases h1
  · rename_i id off len
    simp only [Eff.run] at h
    split at h
    · cases h
    · rename_i bs0 hbs0
      simp only [List.mapM_cons, Option.bind_eq_bind, Option.bind_eq_some_iff, Option.pure_def, Option.some.injEq] at hbs0
      obtain ⟨b0, hg, bs, hbs, rfl⟩ := hbs0
      cases b0 with
      | map e => simp at h
      | arr es' xs =>
        simp only at h
        cases hle : lstE es bs q with
        | none => rw [hle] at h; simp at h
        | some ys =>
          rw [hle] at h
          simp only [Option.bind_some] at h
          split at h
          · cases h
          · rename_i out hout
            split at hout
            · rename_i hc
              obtain ⟨rfl, hc1, hc2⟩ := hc
              cases hout
              have hS0 : ∀ b, (S.setL (id :: q.oid) [some b]) = S.set id (some b) := by intro b; cases q.oid <;> rfl
              simp only [hS0, St.setO, Option.some.injEq, Prod.mk.injEq] at h
              obtain ⟨rfl, rfl⟩ := h
              refine .of_run hd fun E w act hS hF hn hlt => ?_
              have rx := ofOperand_ok hF hx
              have ry := ofOperand_ok hF hy
              rw [hxe] at rx
              rw [hye] at ry
              obtain ⟨B, cb, eb, hrb⟩ := lstE_reads hS ry hbs hle
              obtain ⟨i', zv, g1, g2, g3, g4, g5⟩ := zeroOf_rep (E := E) hz
              rw [hi] at g1; cases g1
              obtain ⟨news, n1, n2, n3, n4⟩ := (hrb.take (min ys.length len)).first (P := P) cb
              have htl : (ys.take (min ys.length len)).length = min ys.length len := by simp
              have hfc : (Builtin.firstCells es' (min ys.length len) (.slice B ys.length cb)).run P w = .ok news.toArray w := by
                rw [htl] at n1
                cases B <;> exact n1
              generalize hev : act.eval x = av at rx
              cases rx with
              | own _ _ _ A cap l hl hlen hA =>
                obtain ⟨l', el, hN, ok⟩ := hS.live id _ hg
                rw [hl] at el; cases el
                have hes : l.es = es' := ok.1
                have hmin : Nat.min ys.length len = min ys.length len := rfl
                by_cases h0 : len = 0
                · subst h0
                  have hn0 : news = [] := List.eq_nil_of_length_eq_zero (by rw [n2]; simp)
                  have hsame : (S.set id (some (.arr es' (xs.take off ++ ys.take (min ys.length 0) ++ xs.drop (off + min ys.length 0))))) = S := by
                    refine set_same ?_
                    rw [hg]; simp
                  refine ⟨.int .i64 0, w, E, ?_, by rw [hsame]; exact hS, by rw [hsame]; exact .refl _ _ _, .junk _, fun hpu => by simp [pureOp, hop] at hpu, fun _ _ e => e⟩
                  subst hn0
                  simp only [Nat.min_zero] at hfc hmin
                  cases A <;> simp [execOp, hop, resolve, invoke, builtin, Builtin.copy_, hev, eb, run_underlying hu, Builtin.lenOf, run_sizeOf hi, hmin, g3, hfc, storeCells, goInt]
                · obtain ⟨hA1, hA2⟩ := hA (by omega)
                  obtain ⟨cs, ce, k1, k2, k3⟩ := blk_splice ok off (ys := ys.take (min ys.length len)) (by omega) (hrb.take _).hes (hrb.take _).hat n2 n4
                  rw [htl] at k3
                  have hst := run_storeCells_at P l.b (l.o + off * es') ce news 0 cs w k1 (by simpa using k2) n3
                  simp only [Nat.add_zero] at hst
                  refine ⟨.int .i64 (min ys.length len : Nat), _, E, ?_, hS.write hg hl (fun b hb => setRow_other w l.b b _ hb) k3, .write hg hl rfl rfl rfl (by simp [World.setRow]) (fun b hb => setRow_other w l.b b _ hb), .junk _, fun hpu => by simp [pureOp, hop] at hpu, fun _ _ e => e⟩
                  rw [hA1, hes] at hev
                  simp [execOp, hop, resolve, invoke, builtin, Builtin.copy_, hev, eb, run_underlying hu, Builtin.lenOf, run_sizeOf hi, hmin, g3, hfc, goInt, hst]
            · cases hout
  · simp at h
end
end Go.Rf


/- Own work: values of interface types: made, asked for their type, compared with nil. -/
set_option linter.unusedVariables false
set_option linter.unusedSimpArgs false
namespace Go.Rf
open Go.RowKit

def plainVs : List AV → Option (List Value)
  | [] => some []
  | .v x :: xs => (plainVs xs).map (x :: ·)
  | _ => none
/-- What stands for one value only. -/
def plainV : AV → Option Value
  | .v x => some x
  | .agg cs => (plainVs cs).map fun l => .agg l.toArray
  | _ => none
theorem plainVs_ok {E : Env} : ∀ {cs : List AV} {l : List Value}, plainVs cs = some l → l.length = cs.length ∧ ∀ (vs : Nat → Value), (∀ j (h : j < cs.length), Rep E (cs[j]) (vs j)) → ∀ j (h : j < l.length), vs j = l[j]
  | [], l, h => by simp [plainVs] at h; subst h; exact ⟨rfl, fun _ _ j hj => by simp at hj⟩
  | .v x :: xs, l, h => by
    simp only [plainVs, Option.map_eq_some_iff] at h
    obtain ⟨l', h1, rfl⟩ := h
    obtain ⟨i1, i2⟩ := plainVs_ok (E := E) h1
    refine ⟨by simp [i1], fun vs hv j hj => ?_⟩
    cases j with
    | zero => exact (hv 0 (by simp)).v_inv
    | succ j => exact i2 (fun j => vs (j + 1)) (fun j hj => hv (j + 1) (by simpa using hj)) j (by simpa using hj)
  | .junk :: _, l, h => by simp [plainVs] at h
  | .sl .. :: _, l, h => by simp [plainVs] at h
  | .own .. :: _, l, h => by simp [plainVs] at h
  | .ptr .. :: _, l, h => by simp [plainVs] at h
  | .eptr .. :: _, l, h => by simp [plainVs] at h
  | .agg .. :: _, l, h => by simp [plainVs] at h
  | .tup .. :: _, l, h => by simp [plainVs] at h
  | .clo .. :: _, l, h => by simp [plainVs] at h
  | .mp .. :: _, l, h => by simp [plainVs] at h
theorem plainV_ok {E : Env} {x : AV} {u v : Value} (h : plainV x = some u) (r : Rep E x v) : v = u := by
  cases r with
  | v y hs => simp [plainV] at h; exact h
  | agg cs vs hn hat hr =>
    simp only [plainV, Option.map_eq_some_iff] at h
    obtain ⟨l, h1, rfl⟩ := h
    obtain ⟨k1, k2⟩ := plainVs_ok (E := E) h1
    have := k2 (fun j => vs.getD j undef) hr
    congr 1
    apply Array.ext
    · simp [hn, k1]
    · intro i h1 h2
      have := this i (by simpa using h2)
      simp only [Array.getD_eq_getD_getElem?, Array.getElem?_eq_getElem h1, Option.getD_some] at this
      simpa using this
  | _ => simp [plainV] at h
def notIf : TypeDesc → Bool
  | .interface _ => false
  | _ => true
def concT (P : Program) (t : TypeId) : Bool := match P.underlying t with | some u => notIf u | none => false
theorem concT_inv {P : Program} {t : TypeId} (h : concT P t = true) : ∃ u, P.underlying t = some u ∧ ∀ m, u ≠ .interface m := by
  unfold concT at h
  split at h
  · rename_i u hu
    exact ⟨u, hu, fun m e => by subst e; simp [notIf] at h⟩
  · cases h
def exMki (t : TypeId) (x : AV) : Option AV := (plainV x).map fun u => .v (.iface t u)
def exTas (t : TypeId) (z : AV) (x : AV) : Option AV :=
  match x with
  | .v (.iface u y) => bif Nat.beq u t then (ofVal y).map fun a => .tup [a, .v (.bool true)] else some (.tup [z, .v (.bool false)])
  | .v .nilIface => some (.tup [z, .v (.bool false)])
  | _ => none
def exInil (neg : Bool) (x : AV) : Option AV :=
  match x with
  | .v .nilIface => some (.v (.bool (!neg)))
  | .v (.iface _ _) => some (.v (.bool neg))
  | _ => none
/-- A test on nil of an interface's value. -/
def cinil (P : Program) (op : BinOp) (t : TypeId) (y : Operand) : Option Bool :=
  match op, y with
  | .eql, .const .nilIface => match P.underlying t with | some (.interface _) => some false | _ => none
  | .neq, .const .nilIface => match P.underlying t with | some (.interface _) => some true | _ => none
  | _, _ => none
section
variable {P : Program} {n : Nat} {o : Oper} {a : AF} {S : St} {nid : Nat} {v : AV}
theorem ok_mki {t : TypeId} {x : Operand} {X : Opd} (hd : ∀ d, o.dst = some d → d < n) (hop : o.op = .makeInterface t x) (hx : ofOperand x = some X) (hc : concT P t = true) (h : exMki t (X.ev a) = some v) : OpOk P n o a S nid v S := by
  refine .pure hd fun E w act hS hF => ?_
  have rx := ofOperand_ok hF hx
  obtain ⟨u, hu, hn⟩ := concT_inv hc
  simp only [exMki, Option.map_eq_some_iff] at h
  obtain ⟨y, h1, rfl⟩ := h
  have := plainV_ok h1 rx
  refine ⟨.iface t y, ?_, .v _ rfl⟩
  simp only [execOp, hop, Instr.makeInterface, this, Sem.run_bind, run_underlying hu, Result.andThen_ok]
  cases u <;> first | rfl | exact (hn _ rfl).elim
theorem ok_tas {t xt : TypeId} {x : Operand} {X : Opd} {z : AV} {m : Nat} (hd : ∀ d, o.dst = some d → d < n) (hop : o.op = .typeAssert x xt t true) (hx : ofOperand x = some X) (hc : concT P t = true) (hz : zeroOf P t = some (z, m))
    (h : exTas t z (X.ev a) = some v) : OpOk P n o a S nid v S := by
  refine .pure hd fun E w act hS hF => ?_
  have rx := ofOperand_ok hF hx
  obtain ⟨u, hu, hn⟩ := concT_inv hc
  obtain ⟨i, zv, g1, g2, _, _, g5⟩ := zeroOf_rep (E := E) hz
  have hzr : ∀ w, (zeroValue t).run P w = .ok zv w := fun w => run_zero g1 g2 w
  have two : ∀ {p : AV} {q : Value} {b : Bool}, Rep E p q → Rep E (.tup [p, .v (.bool b)]) (.tuple #[q, .bool b]) := by
    intro p q b r
    refine .tup _ _ rfl (fun j hj => ?_)
    match j, hj with
    | 0, _ => exact r
    | 1, _ => exact .v _ rfl
  generalize hp : X.ev a = p at rx h
  unfold exTas at h
  split at h
  · rename_i t' y
    have e := rx.v_inv
    cases hb : Nat.beq t' t with
    | true =>
      rw [hb] at h
      simp only [cond_true, Option.map_eq_some_iff] at h
      obtain ⟨q, h1, rfl⟩ := h
      have ht := Nat.eq_of_beq_eq_true hb
      refine ⟨.tuple #[y, .bool true], ?_, two (ofVal_ok h1).1⟩
      simp only [execOp, hop, Instr.typeAssert, e, Sem.run_bind, run_underlying hu, Result.andThen_ok]
      cases u <;> first | exact (hn _ rfl).elim | (simp [ht])
    | false =>
      rw [hb] at h
      simp only [cond_false, Option.some.injEq] at h
      subst h
      have ht := Nat.ne_of_beq_eq_false hb
      refine ⟨.tuple #[zv, .bool false], ?_, two g5⟩
      simp only [execOp, hop, Instr.typeAssert, e, Sem.run_bind, run_underlying hu, Result.andThen_ok]
      cases u <;> first | exact (hn _ rfl).elim | (simp [ht, hzr])
  · have e := rx.v_inv
    simp only [Option.some.injEq] at h
    subst h
    refine ⟨.tuple #[zv, .bool false], ?_, two g5⟩
    simp only [execOp, hop, Instr.typeAssert, e, Sem.run_bind, run_underlying hu, Result.andThen_ok]
    cases u <;> first | exact (hn _ rfl).elim | (simp [hzr])
  · cases h
theorem run_equal_if1 {t : TypeId} {m : _} (hu : P.underlying t = some (.interface m)) (w : World) : (Op.equal t .nilIface .nilIface).run P w = .ok true w := by
  show (Op.equalIn (9999 + 1) t .nilIface .nilIface).run P w = _
  rw [Op.equalIn]
  simp only [Sem.run_bind, run_underlying hu, Result.andThen_ok]
  rfl
theorem run_equal_if2 {t : TypeId} {m : _} (hu : P.underlying t = some (.interface m)) (u : TypeId) (y : Value) (w : World) : (Op.equal t (.iface u y) .nilIface).run P w = .ok false w := by
  show (Op.equalIn (9999 + 1) t (.iface u y) .nilIface).run P w = _
  rw [Op.equalIn]
  simp only [Sem.run_bind, run_underlying hu, Result.andThen_ok]
  rfl
theorem eqg1 (op : BinOp) (t : TypeId) (x : Operand) : eqGuard op t x (.const .nilIface) .nilIface .nilIface = pure () := by cases op <;> cases x <;> rfl
theorem eqg2 (op : BinOp) (t : TypeId) (x : Operand) (u : TypeId) (y : Value) : eqGuard op t x (.const .nilIface) (.iface u y) .nilIface = pure () := by cases op <;> cases x <;> rfl
theorem ok_inil {op : BinOp} {t t2 : TypeId} {x y : Operand} {X : Opd} {neg : Bool} (hd : ∀ d, o.dst = some d → d < n) (hop : o.op = .binOp op t x y t2) (hx : ofOperand x = some X) (hc : cinil P op t y = some neg)
    (h : exInil neg (X.ev a) = some v) : OpOk P n o a S nid v S := by
  refine .pure hd fun E w act hS hF => ?_
  have rx := ofOperand_ok hF hx
  unfold cinil at hc
  generalize hp : X.ev a = p at rx h
  unfold exInil at h
  split at hc <;> (try split at hc) <;> (try cases hc)
  all_goals
    rename_i hu
    split at h
    · have e := rx.v_inv
      cases h
      refine ⟨_, ?_, .v _ rfl⟩
      simp only [execOp, hop, e, eqg1, show act.eval (.const .nilIface) = .nilIface from rfl]
      simp [binOp, run_equal_if1 hu]
    · have e := rx.v_inv
      cases h
      refine ⟨_, ?_, .v _ rfl⟩
      simp only [execOp, hop, e, eqg2, show act.eval (.const .nilIface) = .nilIface from rfl]
      simp [binOp, run_equal_if2 hu]
    · cases h
end
end Go.Rf

