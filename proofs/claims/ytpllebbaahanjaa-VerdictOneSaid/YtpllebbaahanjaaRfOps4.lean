import Derived.Test.YtpllebbaahanjaaRfOps3
set_option linter.unusedVariables false
set_option linter.unusedSimpArgs false
namespace Go.Rf
open Go.RowKit

def fieldOff (P : Program) (s : TypeId) (f : Nat) : Option Nat :=
  match P.underlying s with
  | some (.struct fs) => match fs[f]? with
    | some fd => match P.info? fd.type with
      | some i => if i.size = 0 then none else some fd.offset
      | none => none
    | none => none
  | _ => none
def exFieldA (off : Nat) : AV → Option AV
  | .ptr id ix c => some (.ptr id ix (c + off))
  | .eptr x c => some (.eptr x (c + off))
  | _ => none
def sliceSz (P : Program) (t : TypeId) : Option Nat :=
  match P.underlying t with
  | some (.slice e) => (P.info? e).map (·.size)
  | _ => none
def exIdxA (es : Nat) (x i : AV) : Eff :=
  match x, i with
  | .sl _ xs, .v (.int _ n) => .val ((xs[n.toNat]?).bind fun y => if 0 ≤ n ∧ y.cells.length = es then some (.eptr y 0) else none)
  | .own id off len, .v (.int _ n) => .rd id fun
    | .arr es' xs => if es' = es ∧ 0 ≤ n ∧ n < len ∧ off + len ≤ xs.length then some (.ptr id (off + n.toNat) 0) else none
    | _ => none
  | _, _ => .val none
def arrSz (P : Program) (t : TypeId) : Option (Nat × Nat) :=
  match P.underlying t with
  | some (.array m e) => (P.info? e).map fun i => (m, i.size)
  | _ => none
def exIdxP (m es : Nat) (p i : AV) : Option AV :=
  match p, i with
  | .ptr id ix c, .v (.int _ n) => if 0 ≤ n ∧ n < m then some (.ptr id ix (c + n.toNat * es)) else none
  | .eptr x c, .v (.int _ n) => if 0 ≤ n ∧ n < m then some (.eptr x (c + n.toNat * es)) else none
  | _, _ => none
def exLen : AV → Option AV
  | .sl _ xs => some (.v (.int .i64 xs.length))
  | .own _ _ len => some (.v (.int .i64 len))
  | _ => none
def exLenS : AV → Option AV
  | .v (.string s) => some (.v (.int .i64 s.size))
  | _ => none
def exExt (i : Nat) : AV → Option AV
  | .tup vs => vs[i]?
  | _ => none
def exPick (c x y : AV) : Option AV :=
  match c with
  | .v (.bool b) => some (if b = true then x else y)
  | _ => none
def exUn (op : UnOp) (x : AV) : Option AV :=
  match op, x with
  | .not, .v (.bool b) => some (.v (.bool (!b)))
  | .neg, .v (.int k m) => some (.v (.int k (k.wrap (0 - m))))
  | _, _ => none
def exConv (k : IntKind) : AV → Option AV
  | .v (.int _ m) => some (.v (.int k (k.wrap m)))
  | _ => none
def intOf? (P : Program) (src dst : TypeId) : Option IntKind :=
  match P.underlying src, P.underlying dst with
  | some _, some (.int k) => some k
  | _, _ => none
def exField (k : Option Nat) (off : Nat) : AV → Option AV
  | .agg cs => subc k (.agg cs) off
  | _ => none
def fieldK (P : Program) (s : TypeId) (f : Nat) : Option (Nat × Option Nat) :=
  match P.underlying s with
  | some (.struct fs) => match fs[f]? with
    | some fd => (kindOf P fd.type).map fun k => (fd.offset, k)
    | none => none
  | _ => none
def exIdxV (m es : Nat) (k : Option Nat) (x i : AV) : Option AV :=
  match x, i with
  | .agg cs, .v (.int _ n) => if 0 ≤ n ∧ n < m then subc k (.agg cs) (n.toNat * es) else none
  | _, _ => none
def arrK (P : Program) (t : TypeId) : Option (Nat × Nat × Option Nat) :=
  match P.underlying t with
  | some (.array m e) => match P.info? e with
    | some i => (kindOf P e).map fun k => (m, i.size, k)
    | none => none
  | _ => none
def exIdxS (x i : AV) : Option AV :=
  match x, i with
  | .v (.string s), .v (.int _ n) => if 0 ≤ n then (s[n.toNat]?).map fun b => .v (.int .u8 b.toNat) else none
  | _, _ => none
section
variable {P : Program} {n : Nat} {o : Oper} {a : AF} {S : St} {nid : Nat} {v : AV}

theorem ok_fieldA {s : TypeId} {x : Operand} {X : Opd} {f off : Nat} (hd : ∀ d, o.dst = some d → d < n) (hop : o.op = .fieldAddr s x f) (hx : ofOperand x = some X) (hf : fieldOff P s f = some off)
    (h : exFieldA off (X.ev a) = some v) : OpOk P n o a S nid v S := by
  refine .pure hd fun E w act hS hF => ?_
  have rx := ofOperand_ok hF hx
  unfold fieldOff at hf
  split at hf
  · rename_i fs hu
    split at hf
    · rename_i fd hfd
      split at hf
      · rename_i i hi
        split at hf
        · cases hf
        · rename_i hz
          cases hf
          have run : ∀ A, act.eval x = .pointer (some A) → (execOp act.eval o).run P w = .ok (.value (.pointer (some (A.add fd.offset)))) w := by
            intro A hA
            simp [execOp, hop, hA, Instr.fieldAt, Instr.sureAddr, run_underlying hu, hfd, fieldPlace, run_sizeOf hi, hz]
          generalize hp : X.ev a = p at rx h
          generalize hev : act.eval x = av at rx
          cases rx with
          | ptr id ix c l hl =>
            simp [exFieldA] at h; subst h
            refine ⟨_, run _ hev, ?_⟩
            rw [addr_add, Nat.add_assoc]
            exact .ptr id ix _ l hl
          | eptr y c b p cs g hb hat hc hr =>
            simp [exFieldA] at h; subst h
            refine ⟨_, run _ hev, ?_⟩
            rw [addr_add, Nat.add_assoc]
            exact .eptr y _ b p cs g hb hat hc hr
          | _ => simp [exFieldA] at h
      · cases hf
    · cases hf
  · cases hf
theorem ok_idxA {t : TypeId} {x i : Operand} {X I : Opd} {es : Nat} {S' : St} (hd : ∀ d, o.dst = some d → d < n) (hop : o.op = .indexAddr t x i) (hx : ofOperand x = some X) (hi : ofOperand i = some I)
    (ht : sliceSz P t = some es) (h : (exIdxA es (X.ev a) (I.ev a)).run S nid = some (v, S')) : S' = S ∧ OpOk P n o a S nid v S := by
  generalize hxe : X.ev a = y at h
  generalize hie : I.ev a = j at h
  unfold sliceSz at ht
  split at ht
  · rename_i e hu
    simp only [Option.map_eq_some_iff] at ht
    obtain ⟨ie, hie2, rfl⟩ := ht
    unfold exIdxA at h
    split at h
    · rename_i t' xs k m
      simp only [Eff.run_val, Option.map_eq_some_iff, Prod.mk.injEq] at h
      obtain ⟨v', h1, rfl, rfl⟩ := h
      refine ⟨rfl, .pure hd fun E w act hS hF => ?_⟩
      have rx := ofOperand_ok hF hx
      have ri := ofOperand_ok hF hi
      rw [hxe] at rx
      rw [hie] at ri
      have ei := ri.v_inv
      simp only [Option.bind_eq_some_iff] at h1
      obtain ⟨z, hz, h2⟩ := h1
      split at h2
      · rename_i hcond
        cases h2
        obtain ⟨hlt, hze⟩ := List.getElem?_eq_some_iff.mp hz
        generalize hev : act.eval x = av at rx
        cases rx with
        | sl0 _ A cap htt => simp at hlt
        | sl _ _ b p cap cs es' f hne hb hes hcap htt hat hc hr =>
          have hes' : es' = ie.size := by rw [← hes z (by rw [← hze]; exact List.getElem_mem hlt)]; exact hcond.2
          subst hes'
          have hm : m < (xs.length : Int) := by omega
          refine ⟨.pointer (some ⟨b, (p + m.toNat * ie.size) + 0, none⟩), ?_, .eptr z 0 b (p + m.toNat * ie.size) cs (fun k => f (m.toNat * ie.size + k)) hb ?_ ?_ ?_⟩
          · simp only [execOp, hop, hev, ei]
            have hm2 : ¬ (xs.length : Int) ≤ m := by omega
            simp [Instr.indexAt, asIntOf, run_underlying hu, hcond.1, hm, run_sizeOf hie2, addr_add]
          · intro y hy
            exact flat_atoms hat z (by rw [← hze]; exact List.getElem_mem hlt) y hy
          · intro k hk
            subst hze
            obtain ⟨hk', _⟩ := flat_at hes m.toNat hlt k hk
            rw [Nat.add_assoc]; exact hc _ hk'
          · intro k hk
            subst hze
            obtain ⟨hk', e3⟩ := flat_at hes m.toNat hlt k hk
            rw [← e3]; exact hr _ hk'
      · cases h2
    · rename_i id off len k m
      simp only [Eff.run_rd, Option.map_eq_some_iff, Prod.mk.injEq] at h
      obtain ⟨v', h1, rfl, rfl⟩ := h
      refine ⟨rfl, .pure hd fun E w act hS hF => ?_⟩
      have rx := ofOperand_ok hF hx
      have ri := ofOperand_ok hF hi
      rw [hxe] at rx
      rw [hie] at ri
      have ei := ri.v_inv
      cases hg : S.g id with
      | none => rw [hg] at h1; simp at h1
      | some bk =>
        rw [hg] at h1
        cases bk with
        | map e => simp at h1
        | arr es' xs =>
          simp only [Option.bind_some] at h1
          split at h1
          · rename_i hcond
            cases h1
            obtain ⟨c1, c2, c3, c4⟩ := hcond
            generalize hev : act.eval x = av at rx
            cases rx with
            | own _ _ _ A cap l hl hlen hA =>
              obtain ⟨l', e, hN, ok⟩ := hS.live id _ hg
              rw [hl] at e; cases e
              have hes : l.es = es' := ok.1
              obtain ⟨hA1, hA2⟩ := hA (by omega)
              refine ⟨.pointer (some ⟨l.b, l.o + (off + m.toNat) * l.es + 0, none⟩), ?_, .ptr id _ 0 l hl⟩
              simp only [execOp, hop, hev, ei, hA1]
              simp [Instr.indexAt, asIntOf, run_underlying hu, c2, c3, run_sizeOf hie2, addr_add]
              rw [hes, c1, Nat.add_mul]; omega
          · cases h1
    · simp at h
  · cases ht
theorem ok_ext {x : Operand} {X : Opd} {i : Nat} (hd : ∀ d, o.dst = some d → d < n) (hop : o.op = .extract x i) (hx : ofOperand x = some X) (h : exExt i (X.ev a) = some v) : OpOk P n o a S nid v S := by
  refine .pure hd fun E w act hS hF => ?_
  have rx := ofOperand_ok hF hx
  generalize X.ev a = p at rx h
  generalize hev : act.eval x = av at rx
  cases rx with
  | tup cs vs hn hr =>
    simp only [exExt] at h
    obtain ⟨hlt, e⟩ := List.getElem?_eq_some_iff.mp h
    have hv : vs[i]? = some (vs.getD i undef) := by
      simp [Array.getD_eq_getD_getElem?]; rw [Array.getElem?_eq_getElem (by omega)]; rfl
    refine ⟨vs.getD i undef, ?_, by rw [← e]; exact hr i hlt⟩
    simp only [execOp, hop, hev, Instr.extract, hv]
    rfl
  | _ => simp [exExt] at h
theorem ok_pick {c x y : Operand} {C X Y : Opd} (hd : ∀ d, o.dst = some d → d < n) (hop : o.op = .pick c x y) (hc : ofOperand c = some C) (hx : ofOperand x = some X) (hy : ofOperand y = some Y)
    (h : exPick (C.ev a) (X.ev a) (Y.ev a) = some v) : OpOk P n o a S nid v S := by
  refine .pure hd fun E w act hS hF => ?_
  have rc := ofOperand_ok hF hc
  have rx := ofOperand_ok hF hx
  have ry := ofOperand_ok hF hy
  unfold exPick at h
  split at h
  · rename_i b hb
    rw [hb] at rc
    have ec := rc.v_inv
    cases h
    refine ⟨if b = true then act.eval x else act.eval y, by simp [execOp, hop, ec, asBool], ?_⟩
    cases b <;> simp [rx, ry]
  · cases h
theorem ok_un {op : UnOp} {t : TypeId} {x : Operand} {X : Opd} (hd : ∀ d, o.dst = some d → d < n) (hop : o.op = .unOp op t x) (hx : ofOperand x = some X) (h : exUn op (X.ev a) = some v) : OpOk P n o a S nid v S := by
  refine .pure hd fun E w act hS hF => ?_
  have rx := ofOperand_ok hF hx
  generalize X.ev a = p at rx h
  unfold exUn at h
  split at h
  · have e := rx.v_inv; cases h
    exact ⟨_, by simp only [execOp, hop, e, Op.unary]; rfl, .v _ rfl⟩
  · have e := rx.v_inv; cases h
    exact ⟨_, by simp only [execOp, hop, e, Op.unary, Op.intArith]; rfl, .v _ rfl⟩
  · cases h
theorem ok_conv {s t : TypeId} {x : Operand} {X : Opd} {k : IntKind} (hd : ∀ d, o.dst = some d → d < n) (hop : o.op = .convert s t x) (hx : ofOperand x = some X) (hk : intOf? P s t = some k) (h : exConv k (X.ev a) = some v) : OpOk P n o a S nid v S := by
  refine .pure hd fun E w act hS hF => ?_
  have rx := ofOperand_ok hF hx
  generalize X.ev a = p at rx h
  unfold intOf? at hk
  split at hk
  · rename_i d k' h1 h2
    cases hk
    unfold exConv at h
    split at h
    · have e := rx.v_inv; cases h
      refine ⟨_, ?_, .v _ rfl⟩
      simp only [execOp, hop, e, convert, Sem.run_bind, run_underlying h1, run_underlying h2, Result.andThen_ok]
      cases d <;> rfl
    · cases h
  · cases hk
theorem ok_len {t : TypeId} {x : Operand} {X : Opd} {e : TypeId} (hd : ∀ d, o.dst = some d → d < n) (hop : o.op = .call { callee := .builtin .len, args := #[x], argTypes := #[t] }) (hx : ofOperand x = some X)
    (hu : P.underlying t = some (.slice e)) (h : exLen (X.ev a) = some v) : OpOk P n o a S nid v S := by
  refine .pure hd fun E w act hS hF => ?_
  have rx := ofOperand_ok hF hx
  generalize X.ev a = p at rx h
  generalize hev : act.eval x = av at rx
  have run : ∀ A m c, av = .slice A m c → (execOp act.eval o).run P w = .ok (.value (.int .i64 m)) w := by
    intro A m c e
    subst e
    simp [execOp, hop, resolve, invoke, builtin, Builtin.len_, hev, run_underlying hu, goInt]
  cases rx with
  | sl0 t' A cap ht => simp [exLen] at h; subst h; exact ⟨_, run _ _ _ rfl, .v _ rfl⟩
  | sl t' xs b p cap cs es f hne hb hes hcap ht hat hc hr => simp [exLen] at h; subst h; exact ⟨_, run _ _ _ rfl, .v _ rfl⟩
  | own id off len A cap l hl hlen hA => simp [exLen] at h; subst h; exact ⟨_, run _ _ _ rfl, .v _ rfl⟩
  | _ => simp [exLen] at h
def exMM (mx : Bool) (x y : AV) : Option AV :=
  match x, y with
  | .v (.int k a), .v (.int _ b) => some (.v (.int k (if mx = true then (if b > a then b else a) else (if b < a then b else a))))
  | _, _ => none
theorem ok_mm {mx : Bool} {bi : Builtin} (hb : (mx = true ∧ bi = .max) ∨ (mx = false ∧ bi = .min)) {t u : TypeId} {x y : Operand} {X Y : Opd} (hd : ∀ d, o.dst = some d → d < n) (hop : o.op = .call { callee := .builtin bi, args := #[x, y], argTypes := #[t, u] }) (hx : ofOperand x = some X) (hy : ofOperand y = some Y)
    (h : exMM mx (X.ev a) (Y.ev a) = some v) : OpOk P n o a S nid v S := by
  refine .pure hd fun E w act hS hF => ?_
  have rx := ofOperand_ok hF hx
  have ry := ofOperand_ok hF hy
  generalize X.ev a = p at rx h
  generalize Y.ev a = q at ry h
  unfold exMM at h
  split at h
  · have e1 := rx.v_inv
    have e2 := ry.v_inv
    cases h
    rcases hb with ⟨rfl, rfl⟩ | ⟨rfl, rfl⟩
    · exact ⟨_, by simp [execOp, hop, resolve, invoke, builtin, Builtin.max_, Builtin.max2, e1, e2], .v _ rfl⟩
    · exact ⟨_, by simp [execOp, hop, resolve, invoke, builtin, Builtin.min_, Builtin.min2, e1, e2], .v _ rfl⟩
  · cases h
theorem ok_lenS {t : TypeId} {x : Operand} {X : Opd} (hd : ∀ d, o.dst = some d → d < n) (hop : o.op = .call { callee := .builtin .len, args := #[x], argTypes := #[t] }) (hx : ofOperand x = some X)
    (hu : P.underlying t = some .string) (h : exLenS (X.ev a) = some v) : OpOk P n o a S nid v S := by
  refine .pure hd fun E w act hS hF => ?_
  have rx := ofOperand_ok hF hx
  generalize X.ev a = p at rx h
  unfold exLenS at h
  split at h
  · have e := rx.v_inv; cases h
    exact ⟨.int .i64 _, by simp [execOp, hop, resolve, invoke, builtin, Builtin.len_, e, run_underlying hu, goInt], .v _ rfl⟩
  · cases h
theorem ok_mkf {f : FuncId} {first cap : Array Operand} {F C : List Opd} (hd : ∀ d, o.dst = some d → d < n) (hop : o.op = .makeFunc (.func f) first cap)
    (hf : first.toList.mapM ofOperand = some F) (hc : cap.toList.mapM ofOperand = some C) : OpOk P n o a S nid (.clo f (F.map (·.ev a)) (C.map (·.ev a))) S := by
  refine .pure hd fun E w act hS hF => ?_
  have key : ∀ (l : List Operand) (ys : List Opd), l.mapM ofOperand = some ys → ys.length = l.length ∧ ∀ j (h : j < (ys.map (·.ev a)).length), Rep E ((ys.map (·.ev a))[j]) ((l.map act.eval).getD j undef) := by
    intro l
    induction l with
    | nil => intro ys h; simp at h; subst h; simp
    | cons x l ih =>
      intro ys h
      simp only [List.mapM_cons, Option.bind_eq_bind, Option.bind_eq_some_iff, Option.pure_def, Option.some.injEq] at h
      obtain ⟨y, hy, zs, hz, rfl⟩ := h
      obtain ⟨h1, h2⟩ := ih zs hz
      refine ⟨by simp [h1], fun j hj => ?_⟩
      cases j with
      | zero => simpa using ofOperand_ok hF hy
      | succ j =>
        have := h2 j (by simpa using hj)
        rw [List.getElem_map] at this
        simpa using this
  obtain ⟨a1, a2⟩ := key _ _ hf
  obtain ⟨b1, b2⟩ := key _ _ hc
  refine ⟨.func (.func f) (first.map act.eval) (cap.map act.eval), by simp only [execOp, hop, Instr.makeFunc]; rfl, ?_⟩
  refine .clo f _ _ _ _ (by simp [a1]) (by simp [b1]) (fun j hj => ?_) (fun j hj => ?_)
  · have := a2 j hj
    simpa [Array.getD_eq_getD_getElem?, List.getD_eq_getElem?_getD] using this
  · have := b2 j hj
    simpa [Array.getD_eq_getD_getElem?, List.getD_eq_getElem?_getD] using this
end
end Go.Rf

