import Derived.Test.YtfmmdlockfbfmaaRfMap
import Derived.Laws.StructEq
import Derived.ChangeKeysEq
/- Own work: equality of structs whose fields are integers. -/
set_option linter.unusedVariables false
set_option linter.unusedSimpArgs false
namespace Go.Rf
open Go.RowKit

def seqF (P : Program) (f : Field) : Option Nat :=
  if f.name ≠ "_" then (match P.underlying f.type with | some (.int _) => some f.offset | _ => none) else none
def seqOffs (P : Program) (t : TypeId) : Option (List Nat) :=
  match P.underlying t with
  | some (.struct fs) => if P.stoodInHeld t = false then (if P.eqGuardType P.depth t = false then fs.toList.mapM (seqF P) else none) else none
  | _ => none
def seqGo : List Nat → List AV → List AV → Option Bool
  | [], _, _ => some true
  | o :: os, xs, ys => match xs[o]?, ys[o]? with
    | some (.v (.int k a)), some (.v (.int k' b)) => if k = k' then (if (a == b) = true then seqGo os xs ys else some false) else none
    | _, _ => none
def exSeq (neq : Bool) (offs : List Nat) (x y : AV) : Option AV :=
  match x, y with
  | .agg xs, .agg ys => (seqGo offs xs ys).map fun b => .v (.bool (if neq = true then !b else b))
  | _, _ => none
section
variable {P : Program} {n : Nat} {o : Oper} {a : AF} {S : St} {nid : Nat} {v : AV}
theorem agg_at {E : Env} {xs : List AV} {vs : Array Value} (h : Rep E (.agg xs) (.agg vs)) {j : Nat} {k : IntKind} {m : Int} (hx : xs[j]? = some (.v (.int k m))) : vs[j]? = some (.int k m) := by
  cases h with
  | agg _ _ hn hat hr =>
    obtain ⟨hj, he⟩ := List.getElem?_eq_some_iff.mp hx
    have r := hr j hj
    rw [he] at r
    have e := r.v_inv
    have hs : j < vs.size := by omega
    simp only [Array.getD_eq_getD_getElem?, Array.getElem?_eq_getElem hs, Option.getD_some] at e
    rw [Array.getElem?_eq_getElem hs, e]
theorem run_eqFields {E : Env} {xs ys : List AV} {vs us : Array Value} (hx : Rep E (.agg xs) (.agg vs)) (hy : Rep E (.agg ys) (.agg us)) (d : Nat) (w : World) : ∀ (fs : List Field) (offs : List Nat) (b : Bool), fs.mapM (seqF P) = some offs → seqGo offs xs ys = some b →
    (Op.eqFields (d + 1) vs us fs).run P w = .ok b w
  | [], offs, b, h, hb => by
    simp at h; subst h
    simp [seqGo] at hb; subst hb
    simp [Op.eqFields]
  | f :: fs, offs, b, h, hb => by
    simp only [List.mapM_cons, Option.bind_eq_bind, Option.bind_eq_some_iff, Option.pure_def, Option.some.injEq] at h
    obtain ⟨o, ho, os, hos, rfl⟩ := h
    unfold seqF at ho
    split at ho
    · rename_i hname
      split at ho
      · rename_i k hu
        cases ho
        simp only [seqGo] at hb
        split at hb
        · rename_i k1 a1 k2 a2 h1 h2
          split at hb
          · rename_i hk
            subst hk
            have p1 := agg_at hx h1
            have p2 := agg_at hy h2
            have hpk : P.plainKey f.type = true := by simp [Program.plainKey, hu]
            simp only [Op.eqFields, if_pos hname, Sem.run_bind, run_part_plain w hpk p1, run_part_plain w hpk p2, Result.andThen_ok, run_equalIn_int w d f.type k1 k a1 a2 hu]
            split at hb
            · rename_i he
              rw [he]
              simpa using run_eqFields hx hy d w fs os b hos hb
            · rename_i he
              have he' : (a1 == a2) = false := by simpa using he
              cases hb
              rw [he']; rfl
          · cases hb
        · cases hb
      · cases ho
    · cases ho
theorem ok_seq {op : BinOp} {t t2 : TypeId} {x y : Operand} {X Y : Opd} {q : Bool} {offs : List Nat} (hd : ∀ d, o.dst = some d → d < n) (hop : o.op = .binOp op t x y t2) (hx : ofOperand x = some X) (hy : ofOperand y = some Y)
    (ho : seqOffs P t = some offs) (hq : (op = .eql ∧ q = false) ∨ (op = .neq ∧ q = true)) (h : exSeq q offs (X.ev a) (Y.ev a) = some v) : OpOk P n o a S nid v S := by
  refine .pure hd fun E w act hS hF => ?_
  have rx := ofOperand_ok hF hx
  have ry := ofOperand_ok hF hy
  generalize X.ev a = p at rx h
  generalize Y.ev a = r at ry h
  unfold exSeq at h
  split at h
  · rename_i xs ys
    simp only [Option.map_eq_some_iff] at h
    obtain ⟨b, hb, rfl⟩ := h
    generalize hv1 : act.eval x = v1 at rx
    generalize hv2 : act.eval y = v2 at ry
    obtain ⟨vs, rfl⟩ : ∃ vs, v1 = .agg vs := by cases rx with | agg _ vs _ _ _ => exact ⟨vs, rfl⟩
    obtain ⟨us, rfl⟩ : ∃ us, v2 = .agg us := by cases ry with | agg _ vs _ _ _ => exact ⟨vs, rfl⟩
    unfold seqOffs at ho
    split at ho
    · rename_i fs hfs
      split at ho
      · rename_i hst
        split at ho
        · rename_i hgd
          have hfo : P.fieldsOf t = fs := by simp [Program.fieldsOf, hfs]
          have he : (Op.equalIn 10000 t (.agg vs) (.agg us)).run P w = .ok b w := by
            rw [run_equalIn_struct w 9999 t vs us (by rw [hfo]; exact hfs) hst, hfo]
            exact run_eqFields rx ry 9998 w _ _ _ ho hb
          rcases hq with ⟨rfl, rfl⟩ | ⟨rfl, rfl⟩
          · exact ⟨.bool b, by simp only [execOp, hop, hv1, hv2, Sem.run_bind, run_eqGuard_agg w .eql t x y vs us hgd, Result.andThen_ok, run_eql_struct, he]; rfl, .v _ rfl⟩
          · exact ⟨.bool (!b), by simp only [execOp, hop, hv1, hv2, Sem.run_bind, run_eqGuard_agg w .neq t x y vs us hgd, Result.andThen_ok, run_neq_struct, he]; rfl, .v _ rfl⟩
        · cases ho
      · cases ho
    · cases ho
  · cases h
end
end Go.Rf

