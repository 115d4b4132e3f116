import Derived.Test.YtpllebbaahanjaaRfOp
set_option linter.unusedVariables false
set_option linter.unusedSimpArgs false
namespace Go.Rf
open Go.RowKit

def intOp (op : BinOp) (k : IntKind) (a b : Int) : Option AV :=
  match op with
  | .add => some (.v (.int k (k.wrap (a + b))))
  | .sub => some (.v (.int k (k.wrap (a - b))))
  | .mul => some (.v (.int k (k.wrap (a * b))))
  | .quo => if b = 0 then none else some (.v (.int k (k.wrap (a.tdiv b))))
  | .rem => if b = 0 then none else some (.v (.int k (a.tmod b)))
  | .eql => some (.v (.bool (a == b)))
  | .neq => some (.v (.bool (a != b)))
  | .lss => some (.v (.bool (decide (a < b))))
  | .leq => some (.v (.bool (decide (a ≤ b))))
  | .gtr => some (.v (.bool (decide (a > b))))
  | .geq => some (.v (.bool (decide (a ≥ b))))
  | .and => some (.v (.int k (k.wrap ((BitVec.ofInt k.bits a &&& BitVec.ofInt k.bits b).toNat))))
  | _ => none
def strOp (op : BinOp) (x y : ByteArray) : Option AV :=
  match op with
  | .add => if ((x.size + y.size : Nat) : Int) > 9223372036854775807 then none else some (.v (.string (x ++ y)))
  | .eql => some (.v (.bool (x.toList == y.toList)))
  | .neq => some (.v (.bool (!(x.toList == y.toList))))
  | .lss => some (.v (.bool (Op.bytesLess x.toList y.toList)))
  | _ => none
def binV (op : BinOp) (x y : AV) : Option AV :=
  match x, y with
  | .v (.int k a), .v (.int k' b) => if k = k' then intOp op k a b else none
  | .v (.string a), .v (.string b) => strOp op a b
  | _, _ => none
theorem Rep.v_inv {E : Env} {x y : Value} (r : Rep E (.v x) y) : y = x := by cases r; rfl
section
variable {P : Program} {n : Nat} {o : Oper} {a : AF} {S : St} {nid : Nat} {v : AV}

theorem ok_move {x : Operand} {X : Opd} (hd : ∀ d, o.dst = some d → d < n) (hop : o.op = .move x ∨ o.op = .assign x) (hx : ofOperand x = some X) : OpOk P n o a S nid (X.ev a) S :=
  .pure hd fun E w act hS hF => ⟨act.eval x, by rcases hop with h | h <;> simp [execOp, h], ofOperand_ok hF hx⟩
theorem run_intOp {op : BinOp} {k : IntKind} {x y : Int} (t : TypeId) (h : intOp op k x y = some v) :
    ∃ val, v = .v val ∧ scalar val = true ∧ ∀ w, (binOp op t (.int k x) (.int k y)).run P w = .ok val w := by
  cases op <;> simp only [intOp] at h <;> (try split at h) <;> simp only [Option.some.injEq, reduceCtorEq] at h <;> subst h <;>
    refine ⟨_, rfl, rfl, fun w => ?_⟩ <;> simp [binOp, Op.intArith, Op.intDiv, Op.intCmp, Op.intBits, *]
theorem run_strOp {op : BinOp} {x y : ByteArray} (t : TypeId) (h : strOp op x y = some v) :
    ∃ val, v = .v val ∧ scalar val = true ∧ ∀ w, (binOp op t (.string x) (.string y)).run P w = .ok val w := by
  cases op <;> simp only [strOp] at h <;> (try split at h) <;> simp only [Option.some.injEq, reduceCtorEq] at h <;> subst h <;>
    refine ⟨_, rfl, rfl, fun w => ?_⟩ <;> simp [binOp, Op.stringOp] <;> omega
theorem ok_bin {op : BinOp} {t t2 : TypeId} {x y : Operand} {X Y : Opd} (hd : ∀ d, o.dst = some d → d < n) (hop : o.op = .binOp op t x y t2) (hx : ofOperand x = some X) (hy : ofOperand y = some Y)
    (h : binV op (X.ev a) (Y.ev a) = some v) : OpOk P n o a S nid v S := by
  refine .pure hd fun E w act hS hF => ?_
  have rx := ofOperand_ok hF hx
  have ry := ofOperand_ok hF hy
  generalize X.ev a = ax at *
  generalize Y.ev a = ay at *
  unfold binV at h
  split at h
  · have ex := rx.v_inv
    have ey := ry.v_inv
    split at h
    · rename_i hk
      subst hk
      obtain ⟨val, rfl, hs, hr⟩ := run_intOp (P := P) t h
      refine ⟨val, ?_, .v _ hs⟩
      simp [execOp, hop, ex, ey, eqGuard_at_int, hr]
    · cases h
  · have ex := rx.v_inv
    have ey := ry.v_inv
    obtain ⟨val, rfl, hs, hr⟩ := run_strOp (P := P) t h
    refine ⟨val, ?_, .v _ hs⟩
    simp [execOp, hop, ex, ey, eqGuard_at_string, hr]
  · cases h
end
end Go.Rf

