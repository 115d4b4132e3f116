import Derived.Test.YtidkjfaeolfcaaaGreatRfAW
import Derived.Laws.Wrap64
set_option linter.unusedVariables false
set_option linter.unusedSimpArgs false
namespace Go.Rf
open Go.RowKit

/-! The rules by which a code is gone through by simp: no continuation stands as a lambda, so that nothing is looked into ahead of its turn;
    none is an equation by rfl, so that the kernel has no goal to compare. -/
def nK (Q : Exit → AF → St → Prop) : AF → St → Prop := fun a S => Q .normal a S
def contK (P : Program) (base : Nat) (os : List AOper) (i : Nat) (K : AF → St → Prop) (a : AF) (d : Option Nat) : AV → St → Prop := fun r S' => RG P base os (i + 1) K (a.put d r) S'
def opR (P : Program) (base : Nat) (os : List AOper) (i : Nat) (K : AF → St → Prop) (a : AF) (d : Option Nat) (op : AOp) (S : St) (r : Option (AV × St)) : Prop :=
  match r with
  | some (v, S') => RG P base os (i + 1) K (a.put d v) S'
  | none => nilG op a fun v => RG P base os (i + 1) K (a.put d v) S
def callQ (P : Program) (base : Nat) (os : List AOper) (i : Nat) (K : AF → St → Prop) (a : AF) (S : St) (d : Option Nat) (f : AV) (args : List AV) : Prop :=
  match f with
  | .clo f first cap => CallR P f (first ++ args ++ cap) S (contK P base os i K a d)
  | _ => False
def gdR (P : Program) (base : Nat) (o : AOper) (os : List AOper) (i : Nat) (K : AF → St → Prop) (a : AF) (S : St) (g : AV) (want : Bool) : Prop :=
  match g with
  | .v (.bool b) => if b = want then RG P base (⟨o.dst, o.op, none, o.call⟩ :: os) i K a S else RG P base os (i + 1) K (a.put o.dst (.tup [])) S
  | .tup [] => RG P base os (i + 1) K (a.put o.dst (.tup [])) S
  | _ => False
def opD0 (P : Program) (base : Nat) (os : List AOper) (i : Nat) (T : List (List Nat × List Nat)) (K : AF → St → Prop) (a : AF) (d : Option Nat) (r : Option (AV × St)) : Prop :=
  match r with
  | some (v, S') => RD P base os [] (i + 1) T K (a.put d v) S'
  | none => False
def opD1 (P : Program) (base : Nat) (os : List AOper) (b : List Bool) (fr : List (List Bool)) (i : Nat) (T : List (List Nat × List Nat)) (K : AF → St → Prop) (a : AF) (d : Option Nat) (r : Option (AV × St × List Nat × List Nat)) : Prop :=
  match r with
  | some (v, S', F, W) => Apt b T F W ∧ RD P base os fr (i + 1) ((F, W) :: T) K (a.put d v) S'
  | none => False
def callQD (P : Program) (base : Nat) (os : List AOper) (fr : List (List Bool)) (i : Nat) (T : List (List Nat × List Nat)) (K : AF → St → Prop) (a : AF) (S : St) (d : Option Nat) (f : AV) (args : List AV) : Prop :=
  match f with
  | .clo f first cap => ∃ r F, CallD P f (first ++ args ++ cap) S F r ∧ Apt (fr.headD []) T F [] ∧ RD P base os fr.tail (i + 1) (psh fr T F []) K (a.put d r) S
  | _ => False
def gdD (P : Program) (base : Nat) (o : AOper) (os : List AOper) (fr : List (List Bool)) (i : Nat) (T : List (List Nat × List Nat)) (K : AF → St → Prop) (a : AF) (S : St) (g : AV) (want : Bool) : Prop :=
  match g with
  | .v (.bool b) => if b = want then RD P base (⟨o.dst, o.op, none, o.call⟩ :: os) fr i T K a S else RD P base os fr.tail (i + 1) (psh fr T [] []) K (a.put o.dst (.tup [])) S
  | .tup [] => RD P base os fr.tail (i + 1) (psh fr T [] []) K (a.put o.dst (.tup [])) S
  | _ => False
def condR (P : Program) (x y : AC) (Q : Exit → AF → St → Prop) (a : AF) (S : St) (c : AV) : Prop :=
  match c with
  | .v (.bool b) => if b = true then AW P x Q a S else AW P y Q a S
  | _ => False
def INext (I : Nat → AF → St → Prop) (m : Nat) : AF → St → Prop := fun a S => ∃ m', m' < m ∧ I m' a S
def FzK (r : AV) : AV → St → Prop := fun r' S' => Fz S'.g r' r
section
variable {P : Program} {Q : Exit → AF → St → Prop} {a : AF} {S : St} {K : AF → St → Prop} {base i : Nat} {os : List AOper} {d : Option Nat} {op : AOp}
theorem Z0i : AW P .skip Q a S = Q .normal a S := by simp only [AW]
theorem Z0h (x y : AC) : AW P (.seq x y) Q a S = AW P x (AThen (AW P y Q) Q) a S := by simp only [AW]
private theorem AW_reg_ : AW P (.reg none os) Q a S = RG P S.n os 0 (nK Q) a ⟨S.n + os.length, S.g⟩ := rfl
theorem Z0c : AW P (.reg none os) Q a S = RG P S.n os 0 (nK Q) a ⟨S.n + os.length, S.g⟩ := by rw [AW_reg_]
private theorem AW_cond_ (c : Opd) (x y : AC) : AW P (.cond c x y) Q a S = condR P x y Q a S (c.ev a) := rfl
theorem Z0a (c : Opd) (x y : AC) : AW P (.cond c x y) Q a S = condR P x y Q a S (c.ev a) := by rw [AW_cond_]
theorem Z2z (x y : AC) : condR P x y Q a S (.v (.bool true)) = AW P x Q a S := by simp [condR]
theorem Z2y (x y : AC) : condR P x y Q a S (.v (.bool false)) = AW P y Q a S := by simp [condR]
theorem Z09 (id : Nat) (x : AC) : AW P (.block id x) Q a S = AW P x (ABlock id Q) a S := by simp only [AW]
theorem Z0b (id : Nat) : AW P (.exit id) Q a S = Q (.exit id) a S := by simp only [AW]
theorem Z0f : AW P .ret Q a S = Q .ret a S := by simp only [AW]
theorem AW_loop {x : AC} (I : Nat → AF → St → Prop) (m : Nat) (h0 : I m a S) (h : ∀ m a S, I m a S → AW P x (AThen (INext I m) Q) a S) : AW P (.loop x) Q a S := ⟨I, ⟨m, h0⟩, h⟩
theorem Z0g (x : AC) : AW P (.scp x) Q a S = AW P x (AScope Q) a S := by simp only [AW]
theorem Z04 : AScope Q .normal a S = Q .normal a S := by simp only [AScope]
theorem Z05 : AScope Q .ret a S = Q .ret a S := by simp only [AScope]
theorem Z03 (j : Nat) : AScope Q (.exit j) a S = Q (.exit j) a S := by simp only [AScope]
theorem Z07 : AThen K Q .normal a S = K a S := by simp only [AThen]
theorem Z08 : AThen K Q .ret a S = Q .ret a S := by simp only [AThen]
theorem Z06 (j : Nat) : AThen K Q (.exit j) a S = Q (.exit j) a S := by simp only [AThen]
theorem Z01 (id : Nat) : ABlock id Q .normal a S = Q .normal a S := by simp only [ABlock]
theorem Z02 (id : Nat) : ABlock id Q .ret a S = Q .ret a S := by simp only [ABlock]
theorem Z00 (id j : Nat) : ABlock id Q (.exit j) a S = if j = id then Q .normal a S else Q (.exit j) a S := by simp only [ABlock]
theorem Z1z (ts : List Nat) (R : AV → St → Prop) : RetK ts R .ret a S = R (retAV ts a) S := by simp only [RetK]
theorem Z1y (ts : List Nat) (R : AV → St → Prop) : RetK ts R .normal a S = R (retAV ts a) S := by simp only [RetK]
theorem Z46 (t : Nat) : retAV [t] a = a t := by simp only [retAV]
theorem Z48 (t u : Nat) : retAV [t, u] a = .tup [a t, a u] := by simp [retAV]
theorem Z47 (t u x : Nat) : retAV [t, u, x] a = .tup [a t, a u, a x] := by simp [retAV]
theorem Z45 : retAV [] a = .tup [] := by simp [retAV]
theorem Z1n : RG P base [] i (nK Q) a S = Q .normal a S := by simp only [RG, nK]
theorem Z1o : RG P base (⟨d, op, none, none⟩ :: os) i K a S = opR P base os i K a d op S ((ex op a).run S (base + i)) := by
  simp only [RG, gd, opR]
  cases (ex op a).run S (base + i) <;> rfl
theorem Z3x (v : AV) (S' : St) : opR P base os i K a d op S (some (v, S')) = RG P base os (i + 1) K (a.put d v) S' := by simp only [opR]
private theorem RG_call_ (G : Opd) (xs : List Opd) : RG P base (⟨d, op, none, some (G, xs)⟩ :: os) i K a S = callQ P base os i K a S d (G.ev a) (xs.map (·.ev a)) := rfl
theorem Z1l (G : Opd) (xs : List Opd) : RG P base (⟨d, op, none, some (G, xs)⟩ :: os) i K a S = callQ P base os i K a S d (G.ev a) (xs.map (·.ev a)) := by rw [RG_call_]
theorem Z29 (f : FuncId) (first cap args : List AV) : callQ P base os i K a S d (.clo f first cap) args = CallR P f (first ++ args ++ cap) S (contK P base os i K a d) := by simp only [callQ]
theorem Z32 (r : AV) : contK P base os i K a d r S = RG P base os (i + 1) K (a.put d r) S := by simp only [contK]
theorem Z1m (g : Nat) (want : Bool) (c : Option (Opd × List Opd)) :
    RG P base (⟨d, op, some (g, want), c⟩ :: os) i K a S = gdR P base ⟨d, op, none, c⟩ os i K a S (a g) want := by
  simp only [RG, gd, gdR]
  cases h : a g with
  | v x =>
    cases x with
    | bool b =>
      simp only
      cases hb : (b == want) with
      | true => simp only [beq_iff_eq] at hb; rw [if_pos hb]
      | false => simp only [beq_eq_false_iff_ne, ne_eq] at hb; rw [if_neg hb]
    | _ => rfl
  | tup vs => cases vs <;> rfl
  | _ => rfl
theorem Z3n (c : Option (Opd × List Opd)) : gdR P base ⟨d, op, none, c⟩ os i K a S (.v (.bool true)) true = RG P base (⟨d, op, none, c⟩ :: os) i K a S := by simp [gdR]
theorem Z3k (c : Option (Opd × List Opd)) : gdR P base ⟨d, op, none, c⟩ os i K a S (.v (.bool false)) false = RG P base (⟨d, op, none, c⟩ :: os) i K a S := by simp [gdR]
theorem Z3o (want : Bool) (c : Option (Opd × List Opd)) : gdR P base ⟨d, op, none, c⟩ os i K a S (.tup []) want = RG P base os (i + 1) K (a.put d (.tup [])) S := by simp [gdR]
theorem Z3m (c : Option (Opd × List Opd)) : gdR P base ⟨d, op, none, c⟩ os i K a S (.v (.bool true)) false = RG P base os (i + 1) K (a.put d (.tup [])) S := by simp [gdR]
theorem Z3l (c : Option (Opd × List Opd)) : gdR P base ⟨d, op, none, c⟩ os i K a S (.v (.bool false)) true = RG P base os (i + 1) K (a.put d (.tup [])) S := by simp [gdR]
theorem Z4c (o : Option AV) (S : St) (nid : Nat) : (Eff.val o).runT S nid = o.map fun v => (v, S, [], []) := by
  cases o <;> simp [Eff.runT, Eff.val, St.setL, St.setO]
theorem Z4b (id : Nat) (k : Blk → Option AV) (S : St) (nid : Nat) : (Eff.rd id k).runT S nid = ((S.g id).bind k).map fun v => (v, S, [id], []) := by
  cases h : S.g id with
  | none => simp [Eff.runT, Eff.rd, h]
  | some b => cases h2 : k b <;> simp [Eff.runT, Eff.rd, h, h2, St.setL, St.setO]
theorem Z4d (id : Nat) (k : Blk → Option Blk) (S : St) (nid : Nat) : (Eff.wr id k).runT S nid = ((S.g id).bind k).map fun b => (.junk, S.set id (some b), [id], [id]) := by
  cases h : S.g id with
  | none => simp [Eff.runT, Eff.wr, h]
  | some b => cases h2 : k b <;> simp [Eff.runT, Eff.wr, h, h2, St.setL, St.setO]
theorem Z4a (o : Option (Blk × (Nat → AV))) (S : St) (nid : Nat) : (Eff.new o).runT S nid = o.map fun p => (p.2 nid, S.set nid (some p.1), [], [nid]) := by
  cases o <;> simp [Eff.runT, Eff.new, St.setL, St.setO]
theorem Z49 (id : Nat) (k : Blk → Option (Blk × (Nat → AV))) (S : St) (nid : Nat) :
    (Eff.mv id k).runT S nid = ((S.g id).bind k).map fun p => (p.2 nid, (S.set id none).set nid (some p.1), [id], [id, nid]) := by
  cases h : S.g id with
  | none => simp [Eff.runT, Eff.mv, h]
  | some b => cases h2 : k b <;> simp [Eff.runT, Eff.mv, h, h2, St.setL, St.setO]
/-! #### regions whose order is drawn -/
private theorem AW_regD_ (fr : List (List Bool)) : AW P (.reg (some fr) os) Q a S = RD P S.n os fr 0 [] (nK Q) a ⟨S.n + os.length, S.g⟩ := rfl
theorem Z0d (fr : List (List Bool)) : AW P (.reg (some fr) os) Q a S = RD P S.n os fr 0 [] (nK Q) a ⟨S.n + os.length, S.g⟩ := by rw [AW_regD_]
theorem Z1i (fr : List (List Bool)) (T : List (List Nat × List Nat)) : RD P base [] fr i T (nK Q) a S = Q .normal a S := by simp only [RD, nK]
theorem Z1j (T : List (List Nat × List Nat)) : RD P base (⟨d, op, none, none⟩ :: os) [] i T K a S = opD0 P base os i T K a d ((ex op a).run S (base + i)) := by
  simp only [RD, gd, opD0, psh, List.headD_nil, List.tail_nil]
  simp only [Eff.runT, Eff.run]
  cases (ex op a).F.mapM S.g with
  | none => rfl
  | some bs =>
    simp only
    cases (ex op a).k bs with
    | none => rfl
    | some o => simp [Apt]
theorem Z3v (T : List (List Nat × List Nat)) (v : AV) (S' : St) : opD0 P base os i T K a d (some (v, S')) = RD P base os [] (i + 1) T K (a.put d v) S' := by simp only [opD0]
theorem Z1k (b : List Bool) (fr : List (List Bool)) (T : List (List Nat × List Nat)) : RD P base (⟨d, op, none, none⟩ :: os) (b :: fr) i T K a S = opD1 P base os b fr i T K a d ((ex op a).runT S (base + i)) := by
  simp only [RD, gd, opD1, psh, List.headD_cons, List.tail_cons]
  cases (ex op a).runT S (base + i) <;> rfl
theorem Z3w (b : List Bool) (fr : List (List Bool)) (T : List (List Nat × List Nat)) (v : AV) (S' : St) (F W : List Nat) : opD1 P base os b fr i T K a d (some (v, S', F, W)) = (Apt b T F W ∧ RD P base os fr (i + 1) ((F, W) :: T) K (a.put d v) S') := by simp only [opD1]
private theorem RD_call_ (G : Opd) (xs : List Opd) (fr : List (List Bool)) (T : List (List Nat × List Nat)) : RD P base (⟨d, op, none, some (G, xs)⟩ :: os) fr i T K a S = callQD P base os fr i T K a S d (G.ev a) (xs.map (·.ev a)) := rfl
theorem Z1g (G : Opd) (xs : List Opd) (fr : List (List Bool)) (T : List (List Nat × List Nat)) : RD P base (⟨d, op, none, some (G, xs)⟩ :: os) fr i T K a S = callQD P base os fr i T K a S d (G.ev a) (xs.map (·.ev a)) := by rw [RD_call_]
theorem Z28 (f : FuncId) (first cap args : List AV) (fr : List (List Bool)) (T : List (List Nat × List Nat)) :
    callQD P base os fr i T K a S d (.clo f first cap) args = ∃ r F, CallD P f (first ++ args ++ cap) S F r ∧ Apt (fr.headD []) T F [] ∧ RD P base os fr.tail (i + 1) (psh fr T F []) K (a.put d r) S := by simp only [callQD]
theorem Z1h (g : Nat) (want : Bool) (c : Option (Opd × List Opd)) (fr : List (List Bool)) (T : List (List Nat × List Nat)) :
    RD P base (⟨d, op, some (g, want), c⟩ :: os) fr i T K a S = gdD P base ⟨d, op, none, c⟩ os fr i T K a S (a g) want := by
  simp only [RD, gd, gdD]
  cases h : a g with
  | v x =>
    cases x with
    | bool b =>
      simp only
      cases hb : (b == want) with
      | true => simp only [beq_iff_eq] at hb; rw [if_pos hb]
      | false => simp only [beq_eq_false_iff_ne, ne_eq] at hb; rw [if_neg hb]
    | _ => rfl
  | tup vs => cases vs <;> rfl
  | _ => rfl
theorem Z3i (c : Option (Opd × List Opd)) (fr : List (List Bool)) (T : List (List Nat × List Nat)) : gdD P base ⟨d, op, none, c⟩ os fr i T K a S (.v (.bool true)) true = RD P base (⟨d, op, none, c⟩ :: os) fr i T K a S := by simp [gdD]
theorem Z3f (c : Option (Opd × List Opd)) (fr : List (List Bool)) (T : List (List Nat × List Nat)) : gdD P base ⟨d, op, none, c⟩ os fr i T K a S (.v (.bool false)) false = RD P base (⟨d, op, none, c⟩ :: os) fr i T K a S := by simp [gdD]
theorem Z3j (want : Bool) (c : Option (Opd × List Opd)) (fr : List (List Bool)) (T : List (List Nat × List Nat)) : gdD P base ⟨d, op, none, c⟩ os fr i T K a S (.tup []) want = RD P base os fr.tail (i + 1) (psh fr T [] []) K (a.put d (.tup [])) S := by simp [gdD]
theorem Z3h (c : Option (Opd × List Opd)) (fr : List (List Bool)) (T : List (List Nat × List Nat)) : gdD P base ⟨d, op, none, c⟩ os fr i T K a S (.v (.bool true)) false = RD P base os fr.tail (i + 1) (psh fr T [] []) K (a.put d (.tup [])) S := by simp [gdD]
theorem Z3g (c : Option (Opd × List Opd)) (fr : List (List Bool)) (T : List (List Nat × List Nat)) : gdD P base ⟨d, op, none, c⟩ os fr i T K a S (.v (.bool false)) true = RD P base os fr.tail (i + 1) (psh fr T [] []) K (a.put d (.tup [])) S := by simp [gdD]
theorem Z41 (T : List (List Nat × List Nat)) (F W : List Nat) : psh [] T F W = T := by simp only [psh]
theorem Z40 (b : List Bool) (fr : List (List Bool)) (T : List (List Nat × List Nat)) (F W : List Nat) : psh (b :: fr) T F W = (F, W) :: T := by simp only [psh]
theorem Z0t (T : List (List Nat × List Nat)) (F W : List Nat) : Apt [] T F W = True := by simp only [Apt]
theorem Z0u (b : List Bool) (F W : List Nat) : Apt b [] F W = True := by cases b <;> simp only [Apt]
theorem Z0v (b : List Bool) (p : List Nat × List Nat) (T : List (List Nat × List Nat)) (F W : List Nat) : Apt (true :: b) (p :: T) F W = (Dis p F W ∧ Apt b T F W) := by simp only [Apt]
theorem Z0s (b : List Bool) (p : List Nat × List Nat) (T : List (List Nat × List Nat)) (F W : List Nat) : Apt (false :: b) (p :: T) F W = Apt b T F W := by simp only [Apt]
theorem Z1f (G H F W : List Nat) : Dis (G, H) F W = ((∀ j ∈ H, j ∉ F) ∧ (∀ j ∈ W, j ∉ G) ∧ ∀ j ∈ H, j ∉ W) := by simp only [Dis]
theorem Z43 (j t : Nat) (x : AV) : (AF.put a (some j) x) t = if t = j then x else a t := by simp only [AF.put, updF]
theorem Z42 (x : AV) : AF.put a none x = a := by simp only [AF.put]
theorem ev_t (j : Nat) : (Opd.t j).ev a = a j := by simp only [Opd.ev]
theorem ev_c (x : AV) : (Opd.c x).ev a = x := by simp only [Opd.ev]
theorem Z27 (x : AV) (xs : List AV) : argF (x :: xs) 0 = x := by simp [argF]
theorem Z26 (x : AV) (xs : List AV) (n : Nat) : argF (x :: xs) (n + 1) = argF xs n := by simp [argF]
theorem Z4f (j : Nat) (k : Option Blk) : (S.set j k).n = S.n := by simp only [St.set]
theorem Z4e (j l : Nat) (k : Option Blk) : (S.set j k).g l = if l = j then k else S.g l := by simp only [St.set, updF]
end
def encI (n : Int) : AV := .v (.int .i64 n)
def encB (b : Bool) : AV := .v (.bool b)
theorem Z2m (x : Value) : (AV.v x).cells = [.v x] := by simp only [AV.cells]
theorem Z2l (t : Bool) (xs : List AV) : (AV.sl t xs).cells = [.sl t xs] := by simp only [AV.cells]
theorem Z2f (xs : List AV) : (AV.agg xs).cells = xs := by simp only [AV.cells]
theorem Z2j (i j k : Nat) : (AV.own i j k).cells = [.own i j k] := by simp only [AV.cells]
theorem Z2k (i j k : Nat) : (AV.ptr i j k).cells = [.ptr i j k] := by simp only [AV.cells]
theorem Z2g (f : FuncId) (a b : List AV) : (AV.clo f a b).cells = [.clo f a b] := by simp only [AV.cells]
theorem Z2h (x : AV) (c : Nat) : (AV.eptr x c).cells = [.eptr x c] := by simp only [AV.cells]
theorem Z2i (i : Nat) : (AV.mp i).cells = [.mp i] := by simp only [AV.cells]
theorem wrap_in (n : Int) (h : -9223372036854775808 ≤ n ∧ n ≤ 9223372036854775807) : IntKind.i64.wrap n = n := by
  rw [IntKind.wrap_i64]; omega
end Go.Rf

