import Derived.Test.YtfmmdlockfbfmaaRfUse
import Derived.Test.YtfmmdlockfbfmaaRfRun
/- Own work: rules for drawn regions with calls that write. -/
set_option linter.unusedVariables false
set_option linter.unusedSimpArgs false
namespace Go.Rf
open Go.RowKit
def opS (P : Program) (base : Nat) (l : List SOp) (i : Nat) (d : Option Nat) (op : AOp) (T : List (Nat × List Nat)) (K : AF → St → Prop) (a : AF) (S : St) : Option (AV × St) → Prop
  | some (v, S') => RSp P base l ((i, Fq ⟨d, op, none, none⟩ a) :: T) K (a.put d v) S'
  | none => nilG op a fun v => RSp P base l ((i, Fq ⟨d, op, none, none⟩ a) :: T) K (a.put d v) S
def callS (P : Program) (base : Nat) (l : List SOp) (i : Nat) (o : AOper) (w : List Nat) (T : List (Nat × List Nat)) (K : AF → St → Prop) (a : AF) (S : St) (args : List AV) : AV → Prop
  | .clo f first cap => CallR P f (first ++ args ++ cap) S fun r S' => Kept w S.g S'.g T ∧ RSp P base l ((i, []) :: T) K (a.put o.dst r) S'
  | _ => False
section
variable {P : Program} {Q : Exit → AF → St → Prop} {a : AF} {S : St} {K : AF → St → Prop} {base i : Nat} {l : List SOp} {d : Option Nat} {op : AOp} {T : List (Nat × List Nat)} {w : List Nat}
private theorem AW_regS_ : AW P (.regS l) Q a S = RSp P S.n l [] (nK Q) a ⟨S.n + l.length, S.g⟩ := rfl
theorem AW_regS : AW P (.regS l) Q a S = RSp P S.n l [] (nK Q) a ⟨S.n + l.length, S.g⟩ := by rw [AW_regS_]
theorem RSp_nil : RSp P base [] T (nK Q) a S = Q .normal a S := by simp only [RSp, nK]
theorem RSp_op : RSp P base ((i, ⟨d, op, none, none⟩, w) :: l) T K a S = opS P base l i d op T K a S ((ex op a).run S (base + i)) := by
  simp only [RSp, StpS, gd, opS]
  cases (ex op a).run S (base + i) <;> rfl
theorem opS_some (v : AV) (S' : St) : opS P base l i d op T K a S (some (v, S')) = RSp P base l ((i, Fq ⟨d, op, none, none⟩ a) :: T) K (a.put d v) S' := by simp only [opS]
theorem RSp_call (G : Opd) (xs : List Opd) : RSp P base ((i, ⟨d, op, none, some (G, xs)⟩, w) :: l) T K a S = callS P base l i ⟨d, op, none, some (G, xs)⟩ w T K a S (xs.map (·.ev a)) (G.ev a) := by
  have hF : Fq ⟨d, op, none, some (G, xs)⟩ a = [] := by unfold Fq; rw [if_neg (by simp [quietN])]
  simp only [RSp, StpS, gd, hF]
  cases G.ev a <;> rfl
theorem callS_clo (f : FuncId) (first cap args : List AV) (o : AOper) : callS P base l i o w T K a S args (.clo f first cap) = CallR P f (first ++ args ++ cap) S (fun r S' => Kept w S.g S'.g T ∧ RSp P base l ((i, []) :: T) K (a.put o.dst r) S') := by simp only [callS]
theorem Kept_nil (g g' : Nat → Option Blk) : Kept [] g g' T = True := by rw [kept_iff]; simp
end
end Go.Rf

